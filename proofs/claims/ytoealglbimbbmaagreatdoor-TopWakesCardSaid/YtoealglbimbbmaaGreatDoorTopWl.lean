import Derived.Test.YtoealglbimbbmaaGreatDoorWr
import Derived.Test.YtoealglbimbbmaaGreatDoorWa
import Derived.Test.YtoealglbimbbmaaGreatDoorArgs
namespace Go.Proofs.YtoealglbimbbmaaGreatDoor.S
open Go Go.Proofs
set_option linter.unusedVariables false
set_option linter.unusedSimpArgs false
structure TKSet where
 words : Int
 stripes : Int
 wide : Int
 spins : Int
 writes : Int
 fuel : Int
 start : Int
 deriving DecidableEq
abbrev TKSet.cells (a : TKSet) : List Value := [i64 a.words, i64 a.stripes, i64 a.wide, i64 a.spins, i64 a.writes, i64 a.fuel, u64 a.start]
abbrev TKSetK : List CK := [.i .i64, .i .i64, .i .i64, .i .i64, .i .i64, .i .i64, .i .u64]
abbrev tKSetE : Enc TKSet := ⟨7, TKSet.cells, fun | [.int .i64 x0, .int .i64 x1, .int .i64 x2, .int .i64 x3, .int .i64 x4, .int .i64 x5, .int .u64 x6] => some ⟨x0, x1, x2, x3, x4, x5, x6⟩ | _ => none, by decide, fun _ => rfl, by simp [one], fun cs a h => by split at h <;> cases h; rfl⟩
instance {a : TKSet} : EncIs tKSetE a [i64 a.words, i64 a.stripes, i64 a.wide, i64 a.spins, i64 a.writes, i64 a.fuel, u64 a.start] := ⟨rfl⟩
instance {x0 : Int} {x1 : Int} {x2 : Int} {x3 : Int} {x4 : Int} {x5 : Int} {x6 : Int} : DecIs tKSetE [i64 x0, i64 x1, i64 x2, i64 x3, i64 x4, i64 x5, u64 x6] ⟨x0, x1, x2, x3, x4, x5, x6⟩ := ⟨rfl⟩
theorem tKSetE_of {cs : List Value} (h : good TKSetK cs) : ∃ a : TKSet, tKSetE.enc a = cs := by
 obtain ⟨x0, l0, e0, _, h0⟩ := good_i h
 obtain ⟨x1, l1, e1, _, h1⟩ := good_i h0
 obtain ⟨x2, l2, e2, _, h2⟩ := good_i h1
 obtain ⟨x3, l3, e3, _, h3⟩ := good_i h2
 obtain ⟨x4, l4, e4, _, h4⟩ := good_i h3
 obtain ⟨x5, l5, e5, _, h5⟩ := good_i h4
 obtain ⟨x6, l6, e6, _, h6⟩ := good_i h5
 have e := good_nil h6
 exact ⟨⟨x0, x1, x2, x3, x4, x5, x6⟩, by subst e; subst e6; subst e5; subst e4; subst e3; subst e2; subst e1; subst e0; rfl⟩
structure TPick where
 t : Int
 draw : Int
 n : Int
 deriving DecidableEq
abbrev TPick.cells (a : TPick) : List Value := [i64 a.t, .int .u8 a.draw, i64 a.n]
abbrev TPickK : List CK := [.i .i64, .i .u8, .i .i64]
abbrev tPickE : Enc TPick := ⟨3, TPick.cells, fun | [.int .i64 x0, .int .u8 x1, .int .i64 x2] => some ⟨x0, x1, x2⟩ | _ => none, by decide, fun _ => rfl, by simp [one], fun cs a h => by split at h <;> cases h; rfl⟩
instance {a : TPick} : EncIs tPickE a [i64 a.t, .int .u8 a.draw, i64 a.n] := ⟨rfl⟩
instance {x0 : Int} {x1 : Int} {x2 : Int} : DecIs tPickE [i64 x0, .int .u8 x1, i64 x2] ⟨x0, x1, x2⟩ := ⟨rfl⟩
theorem tPickE_of {cs : List Value} (h : good TPickK cs) : ∃ a : TPick, tPickE.enc a = cs := by
 obtain ⟨x0, l0, e0, _, h0⟩ := good_i h
 obtain ⟨x1, l1, e1, _, h1⟩ := good_i h0
 obtain ⟨x2, l2, e2, _, h2⟩ := good_i h1
 have e := good_nil h2
 exact ⟨⟨x0, x1, x2⟩, by subst e; subst e2; subst e1; subst e0; rfl⟩
namespace Tw
section
variable {w0 : Base} {L M : List Asn} {K : KV} {F : World → Prop} {C : Asn → List Asn} {b : Nat} {x : MacS} {v : Value} {W : Wo} {m : AM} {S : Nat → AT}
def within (n lo hi : Int) : Int := if n.tmod (hi - lo + 1) < 0 then lo + (n.tmod (hi - lo + 1) + hi - lo + 1) else lo + n.tmod (hi - lo + 1)
theorem within_in {n lo hi : Int} (h : lo ≤ hi) : lo ≤ within n lo hi ∧ within n lo hi ≤ hi := by
 have h1 := Int.tmod_lt_of_pos n (show 0 < hi - lo + 1 by omega)
 have h2 := Int.lt_tmod_of_pos n (show 0 < hi - lo + 1 by omega)
 unfold within
 split <;> omega
theorem s_book_Within {n lo hi : Int} (h0 : 0 ≤ lo) (h : lo ≤ hi) (h1 : hi ≤ 1000000) (hK : G w0 L (K (i64 (within n lo hi)))) : G w0 L (CP Tryz.prog Fn.book_Within [i64 n, i64 lo, i64 hi] K) := by
 refine C_book_Within ?_
 unfold S_book_Within
 have g1 := Int.tmod_lt_of_pos n (show 0 < hi - lo + 1 by omega)
 have g2 := Int.lt_tmod_of_pos n (show 0 < hi - lo + 1 by omega)
 have e1 : IntKind.wrap .i64 (hi - lo) = hi - lo := wi64 (by omega) (by omega)
 have e2 : IntKind.wrap .i64 (hi - lo + 1) = hi - lo + 1 := wi64 (by omega) (by omega)
 have nz : NeZ (hi - lo + 1) := ⟨by omega⟩
 unfold within at hK
 generalize ht : n.tmod (hi - lo + 1) = t at *
 have e0 : IntKind.wrap .i64 t = t := wi64 (by omega) (by omega)
 have e3 : IntKind.wrap .i64 (t + hi) = t + hi := wi64 (by omega) (by omega)
 have e4 : IntKind.wrap .i64 (t + hi - lo) = t + hi - lo := wi64 (by omega) (by omega)
 have e5 : IntKind.wrap .i64 (t + hi - lo + 1) = t + hi - lo + 1 := wi64 (by omega) (by omega)
 have e6 : IntKind.wrap .i64 (lo + (t + hi - lo + 1)) = lo + (t + hi - lo + 1) := wi64 (by omega) (by omega)
 have e7 : IntKind.wrap .i64 (lo + t) = lo + t := wi64 (by omega) (by omega)
 by_cases c : t < 0
 ·rw [if_pos c] at hK
  repeat' (first | (with_reducible refine G.joini0 ?_) | (with_reducible refine G.joini1 ?_) | (with_reducible refine G.drew ?_) | (simp (maxSteps := 2000000) only [↓RG, RP, RB, BEq.rfl, Int.reduceEq, Int.reduceLT, Int.reduceLE, Nat.reduceEqDiff, e1, e2, ht, e0, e3, e4, e5, e6, c]))
  exact hK
 ·rw [if_neg c] at hK
  repeat' (first | (with_reducible refine G.joini0 ?_) | (with_reducible refine G.joini1 ?_) | (with_reducible refine G.drew ?_) | (simp (maxSteps := 2000000) only [↓RG, RP, RB, BEq.rfl, Int.reduceEq, Int.reduceLT, Int.reduceLE, Nat.reduceEqDiff, e1, e2, ht, e0, e7, c]))
  exact hK
theorem s_top_pick {q : TPick} {a : Value} {k : Int} [i : Cells v (TPick.cells q)] (h0 : 0 ≤ k) (h1 : k ≤ 1000) (hK : G w0 L (K (i64 (within q.n 0 k)))) : G w0 L (CP Tryz.prog Fn.top_pick [a, v, i64 k] K) := by
 refine C_top_pick ?_
 unfold S_top_pick
 refine G.box fun p => ?_
 refine gg ?_
 refine s_book_Within (by decide) h0 (by omega) ?_
 exact hK.sub
theorem s_top_who {q : TPick} [i : Cells v (TPick.cells q)] (h3 : x.thr.length = 3) [j : SelOb L MacR b x C] (hK : G w0 L (K (i64 (within q.t 0 2)))) : G w0 L (CP Tryz.prog Fn.top_who [ptr b 0, v] K) := by
 refine C_top_who ?_
 unfold S_top_who
 refine G.box fun p => ?_
 repeat' (first | (with_reducible refine G.joini0 ?_) | (with_reducible refine G.joini1 ?_) | (with_reducible refine G.drew ?_) | (simp (maxSteps := 2000000) only [↓RG, RP, RB, BEq.rfl, Int.reduceEq, Int.reduceLT, Int.reduceLE, Nat.reduceEqDiff]))
 refine s_machine_Threads (x := x) ?_
 have hl : (x.thr.length : Int) = 3 := by omega
 rw [hl]
 refine gg ?_
 refine s_book_Within (by decide) (by decide) (by decide) ?_
 refine gg ?_
 exact hK.sub
theorem s_top_takes {c d : Int} (hK : ∀ s : SlV, G w0 (sl tInsE s.v (takesP c d) :: L) (K (.agg #[s.v]))) : G w0 L (CP Tryz.prog Fn.top_takes [i64 c, i64 d] K) := by
 refine C_top_takes ?_
 unfold S_top_takes
 refine G.new fun q => ?_
 refine gg ?_
 refine G.build tInsE (takesP c d) rfl (by decide) (by kernel_rfl) fun v hv => ?_
 refine G.isSl (v := v) fun s hs => ?_
 subst hs
 refine gg ?_
 exact (hK s).sub
theorem s_top_puts {c : Int} (hK : ∀ s : SlV, G w0 (sl tInsE s.v (putsP c) :: L) (K (.agg #[s.v]))) : G w0 L (CP Tryz.prog Fn.top_puts [i64 c] K) := by
 refine C_top_puts ?_
 unfold S_top_puts
 refine G.new fun q => ?_
 refine gg ?_
 refine G.build tInsE (putsP c) rfl (by decide) (by kernel_rfl) fun v hv => ?_
 refine G.isSl (v := v) fun s hs => ?_
 subst hs
 refine gg ?_
 exact (hK s).sub
theorem s_top_adds (hK : ∀ s : SlV, G w0 (sl tInsE s.v adP :: L) (K (.agg #[s.v]))) : G w0 L (CP Tryz.prog Fn.top_adds [i64 6] K) := by
 refine C_top_adds ?_
 unfold S_top_adds
 refine G.new fun q => ?_
 refine gg ?_
 refine G.build tInsE adP rfl (by decide) (by kernel_rfl) fun v hv => ?_
 refine G.isSl (v := v) fun s hs => ?_
 subst hs
 refine gg ?_
 exact (hK s).sub
abbrev setupOf (g : TKSet) : TSet := ⟨within g.words 32 80, within g.stripes 1 16, within g.wide 1 4, 0, g.start.tmod 1000, within g.spins 0 4, within g.writes 4 40, within g.fuel 20 120⟩
theorem s_keep_Setup_Setup {g : TKSet} [i : Cells v (TKSet.cells g)] (hK : G w0 L (K (.agg (TSet.cells (setupOf g)).toArray))) : G w0 L (CP Tryz.prog Fn.keep_Setup_Setup [v] K) := by
 refine C_keep_Setup_Setup ?_
 unfold S_keep_Setup_Setup
 refine G.box fun p => ?_
 refine G.new fun q => ?_
 have nz : NeZ (1000 : Int) := ⟨by decide⟩
 repeat' (first
  | exact hK.sub
  | (with_reducible refine ⟨?_, ?_⟩)
  | (with_reducible refine G.drew ?_)
  | (refine s_book_Within (by decide) (by decide) (by decide) ?_)
  | (simp (maxSteps := 2000000) only [↓RG, RP, RB, BEq.rfl, Int.reduceEq, Int.reduceLT, Int.reduceLE, Nat.reduceEqDiff])
  | (refine G.new fun q2 => ?_))
theorem s_pickW {i : Nat} {draw : Int} (hW : WoOk W) (hi : i < 3) (h : Inv W.P m S) (hX : RS W x m S) (hp : x.picks < 1000000) (hd : 0 ≤ draw) (hd2 : draw ≤ 255) [j : SelOb L MacR b x C]
  (hK : ∀ x' p, 0 ≤ p → p ≤ 8 → RS W x' (stepT W.P i m (S i) p).1 (stepS W.P i S (stepT W.P i m (S i) p).2) → x'.picks = x.picks + 1 → G w0 (C (ob MacR b x')) (K (i64 0))) : G w0 L (CP Tryz.prog Fn.machine_Machine_Pick [ptr b 0, i64 i, .int .u8 draw] K) := by
 obtain ⟨t, h1, h2, p, p0, p8, h3, h4⟩ := mac_rel (draw := draw) hW hi h hX hd hp
 exact s_machine_Pick (x := x) (t := t) h2 hd hd2 (hK _ p p0 p8 h3 h4)
theorem G_eqStrT {a b : ByteArray} {K : KV} (h : (a.toList == b.toList) = true) : G w0 L (eqStrW .eql (.string a) (.string b) K) = G w0 L (K (.bool true)) := by
 congr 1
 funext w
 show eqW .eql (a.toList == b.toList) K w = _
 rw [h]
 rfl
theorem Rows_mk (v : Value) (l : List (SlV × List (List TIns))) {ps : List SlV} {rs : List (List (List TIns))} (hp : l.map (·.1) = ps) (hr : l.map (·.2) = rs) [PickAll [sl progE v ps, ob (BigO rowF) () l] L M] (H : G w0 (ob RowsR v rs :: M) F) : G w0 L F :=
 G.pickAll (As := [sl progE v ps, ob (BigO rowF) () l]) (by rw [Rows_open] at H; have := H l hr; rw [hp] at this; exact this)
theorem Jobs_mk (v : Value) (l : List (SlV × List TIns)) {ps : List SlV} {rs : List (List TIns)} (hp : l.map (·.1) = ps) (hr : l.map (·.2) = rs) [PickAll [sl progE v ps, ob (BigO jobF) () l] L M] (H : G w0 (ob JobsR v rs :: M) F) : G w0 L F :=
 G.pickAll (As := [sl progE v ps, ob (BigO jobF) () l]) (by rw [Jobs_open] at H; have := H l hr; rw [hp] at this; exact this)
theorem s_top_awake (hK : G w0 L (K (.bool true))) : G w0 L (CP Tryz.prog Fn.top_awake [] K) := by
 refine C_top_awake ?_
 unfold S_top_awake
 refine gg ?_
 refine s_top_adds fun sv => ?_
 refine G.build progE [sv] rfl (by decide) rfl fun u1 h1 => ?_
 refine G.isSl (v := u1) fun s1 e1 => ?_
 subst e1
 refine G.build progE [s1] rfl (by decide) rfl fun u2 h2 => ?_
 refine Big_nil (f := jobF) ?_
 refine Big_nil (f := rowF) ?_
 refine G.pickAll (As := [jobF (sv, adP), ob (BigO jobF) () []]) ?_
 rw [List.cons_append, List.cons_append, List.nil_append, ← Big_snoc, List.nil_append]
 refine Jobs_mk s1.v [(sv, adP)] (ps := [sv]) (rs := [adP]) rfl rfl ?_
 refine G.pickAll (As := [rowF (s1, [adP]), ob (BigO rowF) () []]) ?_
 rw [List.cons_append, List.cons_append, List.nil_append, ← Big_snoc, List.nil_append]
 refine Rows_mk u2 [(s1, [adP])] (ps := [s1]) (rs := [[adP]]) rfl rfl ?_
 refine s_machine_New (s := ⟨40, 4, 0, 0, 0, 0, 9, 20⟩) (rows := [[adP]]) (by decide) (by decide) (fun r hr => ?_) h2 fun b => ?_
 ·rw [List.mem_singleton.1 hr]
  exact ⟨by decide, fun p hp => by rw [List.mem_singleton.1 hp]; simp⟩
 rw [aw_new]
 refine gg ?_
 refine G.loop1 (σ := Nat) (fun z => i64 z) (fun z => ob MacR b (awX z) :: ob RowsR u2 [[adP]] :: L) (fun z => z ≤ 40) (fun z => 40 - z) 0 rfl rfl (Nat.zero_le _) ?_
 intro k hk J hJ
 refine gr ?_
 refine G.cond (fun h => ?_) (fun h => ?_)
 ·have hk2 : k < 40 := by simp only [decide_eq_true_eq] at h; omega
  obtain ⟨t, g1, g2, g3⟩ := awX_step k hk2
  refine s_machine_Pick (x := awX k) (i := 0) (t := t) g2 (by decide) (by decide) ?_
  rw [g3]
  repeat' (first | (with_reducible refine G.joini0 ?_) | (with_reducible refine G.joini1 ?_) | (with_reducible refine G.drew ?_) | (simp (maxSteps := 2000000) only [↓RG, RP, RB, BEq.rfl, Int.reduceEq, Int.reduceLT, Int.reduceLE, Nat.reduceEqDiff]))
  rw [wsucc (by omega)]
  exact (hJ (k + 1) hk2 (by omega)).sub
 ·have hk2 : k = 40 := by simp only [decide_eq_false_iff_not] at h; omega
  subst hk2
  have e : awX 40 = aX (aM 1 ⟨1, false, 0⟩ 1 0 14) aEnd 40 := rfl
  rw [e]
  refine s_machine_Words (x := aX (aM 1 ⟨1, false, 0⟩ 1 0 14) aEnd 40) (by decide) fun u hu => ?_
  refine s_machine_Results (x := aX (aM 1 ⟨1, false, 0⟩ 1 0 14) aEnd 40) (i := 0) (t := aEnd) rfl (by decide) (by decide) fun u3 h3 => ?_
  have hel : Elem (aM 1 ⟨1, false, 0⟩ 1 0 14).w 6 1 := ⟨rfl⟩
  have hwl : ((aM 1 ⟨1, false, 0⟩ 1 0 14).w.length : Int) = 40 := rfl
  generalize (aM 1 ⟨1, false, 0⟩ 1 0 14).w = ws at hel hwl ⊢
  try simp (maxSteps := 2000000) only [fuse_and, fuse_or, fuse_step, fuse_pair, fuse_in, andP_true]
  refine gf hwl ?_
  repeat' (first | (with_reducible refine G.joini0 ?_) | (with_reducible refine G.joini1 ?_) | (with_reducible refine G.drew ?_) | (simp (maxSteps := 2000000) only [↓RG, RP, RB, BEq.rfl, Int.reduceEq, Int.reduceLT, Int.reduceLE, Nat.reduceEqDiff, List.length_cons, List.length_nil, Nat.reduceAdd, Int.cast_ofNat_Int]))
  rw [show strV [49] = .string ⟨#[49]⟩ from rfl, G_eqStrT (by decide +kernel)]
  refine gg ?_
  refine s_machine_Rests (x := aX (aM 1 ⟨1, false, 0⟩ 1 0 14) aEnd 40) (by decide) ?_
  rw [show restsL (aX (aM 1 ⟨1, false, 0⟩ 1 0 14) aEnd 40).thr = true from rfl]
  refine gg ?_
  refine s_machine_Attempts (x := aX (aM 1 ⟨1, false, 0⟩ 1 0 14) aEnd 40) (fun t hm => ?_) (by decide) fun u5 l5 h5 hl5 => ?_
  ·rw [List.mem_singleton] at hm
   subst hm
   exact ⟨by decide, by decide⟩
  have hl6 : (l5.length : Int) = 1 := by rw [hl5]; rfl
  refine gf hl6 ?_
  exact hK.sub
def Mid (W : Wo) (m : AM) (S : Nat → AT) : Nat → AM → (Nat → AT) → Prop
 | 0, m1, S1 => m1 = m ∧ S1 = S
 | k + 1, m1, S1 => ∃ m0 S0 p, Mid W m S k m0 S0 ∧ 0 ≤ p ∧ p ≤ 8 ∧ m1 = (stepT W.P k m0 (S0 k) p).1 ∧ S1 = stepS W.P k S0 (stepT W.P k m0 (S0 k) p).2
theorem Mid.inv (hW : WoOk W) (h : Inv W.P m S) : ∀ {k : Nat} {m1 : AM} {S1 : Nat → AT}, k ≤ 3 → Mid W m S k m1 S1 → Inv W.P m1 S1
 | 0, _, _, _, ⟨rfl, rfl⟩ => h
 | k + 1, _, _, hk, ⟨m0, S0, p, h0, p0, p8, rfl, rfl⟩ => step_inv hW.prOk (by omega) (Mid.inv hW h (by omega) h0) p0 p8
theorem Mid.mu {m1 : AM} {S1 : Nat → AT} (hW : WoOk W) (h : Inv W.P m S) (hn : ¬ Rest S) (hm : Mid W m S 3 m1 S1) : mu W.P m1 S1 < mu W.P m S := by
 obtain ⟨m2, S2, p2, ⟨m3, S3, p1, ⟨m4, S4, p0, ⟨rfl, rfl⟩, a0, a8, rfl, rfl⟩, b0, b8, rfl, rfl⟩, c0, c8, rfl, rfl⟩ := hm
 exact (round_mu hW.prOk h ⟨a0, a8⟩ ⟨b0, b8⟩ ⟨c0, c8⟩ hn).2
def Ahead (W : Wo) (r : Nat) (x : MacS) : Prop := ∃ m S, RS W x m S ∧ Inv W.P m S ∧ x.picks ≤ 2000 + 3 * r ∧ (Rest S ∨ mu W.P m S + r < 200000)
theorem Ahead.start (hX : RS W x m S) (h : Inv W.P m S) (hR : (W.P.n 0 : Int) + W.P.n 1 + W.P.n 2 ≤ 18) (hp : x.picks ≤ 2000) : Ahead W 0 x :=
 ⟨m, S, hX, h, by omega, .inr (by have := mu_bound h hR; omega)⟩
theorem s_top_settled {ds : List Int} [a : Arg w0 v byteE ds] (hr1 : ∀ x ∈ ds, 0 ≤ x ∧ x ≤ 255) (hW : WoOk W) (hR : (W.P.n 0 : Int) + W.P.n 1 + W.P.n 2 ≤ 18) (h0 : Ahead W 0 x) [i : SelOb L MacR b x C]
  (hK : ∀ x' m S, RS W x' m S → Inv W.P m S → Rest S → G w0 (C (ob MacR b x')) (K (.bool true))) : G w0 L (CP Tryz.prog Fn.top_settled [ptr b 0, v] K) := by
 refine i.useA (ι := {x' : MacS // ∃ m S, RS W x' m S ∧ Inv W.P m S ∧ Rest S}) (A' := fun x' => ob MacR b x'.1) (F' := fun _ => K (.bool true)) (fun M hK => ?_) (fun x' => ?_)
 ·refine C_top_settled ?_
  unfold S_top_settled
  refine G.loop1 (σ := Nat × MacS) (fun z => i64 z.1) (fun z => ob MacR b z.2 :: M) (fun z => z.1 ≤ 200000 ∧ Ahead W z.1 z.2) (fun z => 200000 - z.1) (0, x) rfl rfl ⟨Nat.zero_le _, h0⟩ ?_
  rintro ⟨r, y⟩ ⟨hr, m, S, hm, hi, hpk, hmu⟩ J hJ
  simp only at hr hm hpk hmu hJ ⊢
  have hlen := hm.len
  have hml := mu_bound hi hR
  have hfr := rests_iff hm
  refine gr ?_
  refine G.cond (fun h => ?_) (fun h => ?_)
  ·have hr2 : r < 200000 := by simp only [decide_eq_true_eq] at h; omega
   refine s_machine_Rests (x := y) (by omega) ?_
   refine G.cond (fun hc => ?_) (fun hc => ?_)
   ·exact hK ⟨y, m, S, hm, hi, hfr.1 hc⟩
   ·have hnf : ¬ Rest S := fun g => by rw [hfr.2 g] at hc; cases hc
    have hmu2 : mu W.P m S + r < 200000 := by
     rcases hmu with g | g
     ·exact absurd g hnf
     ·exact g
    have hin : ∀ d : Int, 0 ≤ d → d ≤ 255 → G w0 (ob MacR b y :: M) (loopW1 (Value.int .i64 0) (fun J2 x7 => CP Tryz.prog Fn.machine_Machine_Threads [ptr b 0] (fun x8 => binIntW .lss x7 x8 (fun x9 => condP x9 (CP Tryz.prog Fn.machine_Machine_Pick [ptr b 0, x7, .int .u8 d] (fun x10 => binIntW .add x7 (Value.int .i64 1) (fun x11 => J2 x11))) (J (Value.int .i64 (IntKind.wrap .i64 ((r : Int) + 1)))))))) := by
     intro d d0 d1
     refine G.loop1 (σ := Nat × MacS) (fun z => i64 z.1) (fun z => ob MacR b z.2 :: M) (fun z => z.1 ≤ 3 ∧ z.2.picks = y.picks + z.1 ∧ ∃ m1 S1, RS W z.2 m1 S1 ∧ Mid W m S z.1 m1 S1) (fun z => 3 - z.1) (0, y) rfl rfl ⟨Nat.zero_le _, by simp, m, S, hm, rfl, rfl⟩ ?_
     rintro ⟨k, x1⟩ ⟨hk, hpk1, m1, S1, hm1, hmid⟩ J2 hJ2
     simp only at hk hpk1 hm1 hmid hJ2 ⊢
     refine s_machine_Threads (x := x1) ?_
     have hl2 : (x1.thr.length : Int) = 3 := by have := hm1.len; omega
     rw [hl2]
     have hi1 := hmid.inv hW hi hk
     refine gr ?_
     refine G.cond (fun h3 => ?_) (fun h3 => ?_)
     ·have hk3 : k < 3 := by simp only [decide_eq_true_eq] at h3; omega
      refine s_pickW hW hk3 hi1 hm1 (by omega) d0 d1 fun x' p p0 p8 hr' hpk' => ?_
      repeat' (first | (with_reducible refine G.joini0 ?_) | (with_reducible refine G.joini1 ?_) | (with_reducible refine G.drew ?_) | (simp (maxSteps := 2000000) only [↓RG, RP, RB, BEq.rfl, Int.reduceEq, Int.reduceLT, Int.reduceLE, Nat.reduceEqDiff]))
      rw [wsucc (by omega)]
      exact hJ2 (k + 1, x') ⟨hk3, by simp only; omega, _, _, hr', m1, S1, p, hmid, p0, p8, rfl, rfl⟩ (by simp only; omega)
     ·have hk3 : k = 3 := by simp only [decide_eq_false_iff_not] at h3; omega
      subst hk3
      have hmr := hmid.mu hW hi hnf
      repeat' (first | (with_reducible refine G.joini0 ?_) | (with_reducible refine G.joini1 ?_) | (with_reducible refine G.drew ?_) | (simp (maxSteps := 2000000) only [↓RG, RP, RB, BEq.rfl, Int.reduceEq, Int.reduceLT, Int.reduceLE, Nat.reduceEqDiff]))
      rw [wsucc (by omega)]
      exact hJ (r + 1, x1) ⟨hr2, m1, S1, hm1, hi1, by simp only; omega, .inr (by simp only; omega)⟩ (by simp only; omega)
    by_cases cd : ds.length = 0
    ·have cd2 : (ds.length : Int) = 0 := by omega
     refine gf cd2 ?_
     exact hin 0 (by decide) (by decide)
    ·have cd2 : ((0 : Int) < (ds.length : Int)) = True := eq_true (by omega)
     have hix : r % ds.length < ds.length := Nat.mod_lt _ (by omega)
     have e := elem_of hix
     have hem : ((r : Int)).tmod (ds.length : Int) = ((r % ds.length : Nat) : Int) := rfl
     obtain ⟨d0, d1⟩ := hr1 _ (List.getElem_mem hix)
     have nz : NeZ (ds.length : Int) := ⟨by omega⟩
     have ix : IxI ((r : Int).tmod (ds.length : Int)) (r % ds.length) := ⟨hem⟩
     repeat' (first | (with_reducible refine G.joini0 ?_) | (with_reducible refine G.joini1 ?_) | (with_reducible refine G.drew ?_) | (simp (maxSteps := 2000000) only [↓RG, RP, RB, BEq.rfl, Int.reduceEq, Int.reduceLT, Int.reduceLE, Nat.reduceEqDiff, cd2]))
     exact hin _ d0 d1
  ·have hr2 : r = 200000 := by simp only [decide_eq_false_iff_not] at h; omega
   refine s_machine_Rests (x := y) (by omega) ?_
   have hf : Rest S := by
    rcases hmu with g | g
    ·exact g
    ·omega
   rw [hfr.2 hf]
   exact hK ⟨y, m, S, hm, hi, hf⟩
 ·obtain ⟨x', m, S, h1, h2, h3⟩ := x'
  exact hK x' m S h1 h2 h3
end
end Tw
end Go.Proofs.YtoealglbimbbmaaGreatDoor.S
namespace Go.Proofs.YtoealglbimbbmaaGreatDoor.S.Tw
open Go Go.Proofs
set_option linter.unusedVariables false
set_option linter.unusedSimpArgs false
section
variable {w0 : Base} {L M : List Asn} {K : KV} {F : World → Prop} {C : Asn → List Asn} {b : Nat} {x : MacS} {v : Value} {W : Wo} {m : AM} {S : Nat → AT}
instance {a : Option Addr} {n c : Nat} : DecIs progE [.slice a n c] ⟨a, n, c⟩ := ⟨rfl⟩
def andK (a b : Int) : Int := IntKind.wrap .u8 ((BitVec.ofInt IntKind.u8.bits a &&& BitVec.ofInt IntKind.u8.bits b).toNat : Int)
theorem and_u8 {a b : Int} : IntKind.wrap .u8 ((BitVec.ofInt IntKind.u8.bits a &&& BitVec.ofInt IntKind.u8.bits b).toNat : Int) = andK a b := rfl
theorem andK_le {a b : Int} (h : ((BitVec.ofInt 8 b).toNat : Int) = b) (hb : b ≤ 255) : 0 ≤ andK a b ∧ andK a b ≤ b := by
 have h1 : (BitVec.ofInt 8 a &&& BitVec.ofInt 8 b).toNat ≤ (BitVec.ofInt 8 b).toNat := by rw [BitVec.toNat_and]; exact Nat.and_le_right
 have key : ∀ n : Nat, n ≤ 255 → IntKind.wrap .u8 (n : Int) = n := fun n hn => by simp [IntKind.wrap, IntKind.signed, IntKind.bits]; omega
 have h2 : andK a b = ((BitVec.ofInt 8 a &&& BitVec.ofInt 8 b).toNat : Int) := key (BitVec.ofInt 8 a &&& BitVec.ofInt 8 b).toNat (by omega)
 omega
def jobK (k : Int) : Job := if 1 < andK k 3 then .puts (8 + andK (k.fdiv 4) 3) else .takes (8 + andK (k.fdiv 4) 1) (10 + andK (k.fdiv 8) 1)
theorem jobK_ok (k : Int) : JobOk (jobK k) := by
 have h1 := andK_le (a := k.fdiv 4) (b := 3) rfl (by decide)
 have h2 := andK_le (a := k.fdiv 4) (b := 1) rfl (by decide)
 have h3 := andK_le (a := k.fdiv 8) (b := 1) rfl (by decide)
 unfold jobK
 split
 ·show _ ∨ _ ∨ _ ∨ _; omega
 ·show (_ ∨ _) ∧ (_ ∨ _); omega
def jobsTo (ks : List Int) (t : Nat) : Nat → List Job
 | 0 => []
 | i + 1 => if i % 3 = t then jobsTo ks t i ++ [jobK (ks.getD i 0)] else jobsTo ks t i
theorem jobsTo_len (ks : List Int) {t : Nat} (ht : t < 3) : ∀ i, (jobsTo ks t i).length = (i + 2 - t) / 3
 | 0 => by simp only [jobsTo, List.length_nil]; omega
 | i + 1 => by
  have ih := jobsTo_len ks ht i
  unfold jobsTo
  split
  ·rw [List.length_append, ih]; simp only [List.length_singleton]; omega
  ·rw [ih]; omega
theorem jobsTo_ok (ks : List Int) (t : Nat) : ∀ i, ∀ j ∈ jobsTo ks t i, JobOk j
 | 0, _, h => by cases h
 | i + 1, j, h => by
  unfold jobsTo at h
  split at h
  ·rcases List.mem_append.1 h with h | h
   ·exact jobsTo_ok ks t i j h
   ·rw [List.mem_singleton.1 h]; exact jobK_ok _
  ·exact jobsTo_ok ks t i j h
theorem rows_next {ks : List Int} {i : Nat} (h : i < ks.length) : [(jobsTo ks 0 i).map progJ, (jobsTo ks 1 i).map progJ, (jobsTo ks 2 i).map progJ].set (i % 3) ((jobsTo ks (i % 3) i).map progJ ++ [progJ (jobK ks[i])]) = [(jobsTo ks 0 (i + 1)).map progJ, (jobsTo ks 1 (i + 1)).map progJ, (jobsTo ks 2 (i + 1)).map progJ] := by
 have e : ks.getD i 0 = ks[i] := by rw [List.getD_eq_getElem?_getD, List.getElem?_eq_getElem h]; rfl
 have h2 : i % 3 = 0 ∨ i % 3 = 1 ∨ i % 3 = 2 := by omega
 rcases h2 with g | g | g <;> simp [jobsTo, g, List.getElem?_eq_getElem h]
theorem jobsTo_big (ks : List Int) {t : Nat} (ht : 3 ≤ t) : ∀ i, jobsTo ks t i = []
 | 0 => rfl
 | i + 1 => by
  unfold jobsTo
  rw [if_neg (by omega)]
  exact jobsTo_big ks ht i
abbrev woOf (g : TKSet) (ks : List Int) (i : Nat) : Wo := ⟨setHeld (setupOf g) 3, fun t => jobsTo ks t i⟩
theorem woOf_ok {g : TKSet} {ks : List Int} {i : Nat} (hg : 0 ≤ g.start) (hi : i ≤ 18) : WoOk (woOf g ks i) := by
 have h1 := held_le (n := within g.words 32 80) (lo := 32) (hi := 256) (by decide)
 have h2 := held_le (n := within g.stripes 1 16) (lo := 1) (hi := 16) (by decide)
 have h3 := held_le (n := within g.wide 1 4) (lo := 1) (hi := 16) (by decide)
 have h4 := held_le (n := within g.spins 0 4) (lo := 0) (hi := 4) (by decide)
 have h5 := within_in (n := g.writes) (lo := 4) (hi := 40) (by decide)
 have h6 := within_in (n := g.fuel) (lo := 20) (hi := 120) (by decide)
 have e5 : S.held (within g.writes 4 40) 0 96 = within g.writes 4 40 := by unfold S.held; rw [if_neg (by omega), if_neg (by omega)]
 have e6 : S.held (within g.fuel 20 120) 0 400 = within g.fuel 20 120 := by unfold S.held; rw [if_neg (by omega), if_neg (by omega)]
 have h7 := Int.tmod_nonneg 1000 hg
 have h8 := Int.tmod_lt_of_pos g.start (show (0 : Int) < 1000 by decide)
 refine ⟨heldSet_held _, rfl, h1, h2, h3, h4, ?_, ?_, ?_, fun t => ?_, fun t j hj => jobsTo_ok ks t i j hj⟩
 ·show 1 ≤ S.held (within g.writes 4 40) 0 96 ∧ S.held (within g.writes 4 40) 0 96 ≤ 96
  rw [e5]; omega
 ·show 20 ≤ S.held (within g.fuel 20 120) 0 400 ∧ S.held (within g.fuel 20 120) 0 400 ≤ 400
  rw [e6]; omega
 ·show 0 ≤ (if 4611686018427387904 ≤ g.start.tmod 1000 then (4611686018427387903 : Int) else g.start.tmod 1000) ∧ (if 4611686018427387904 ≤ g.start.tmod 1000 then (4611686018427387903 : Int) else g.start.tmod 1000) ≤ 1000000
  rw [if_neg (by omega)]; omega
 ·show (jobsTo ks t i).length ≤ 6
  by_cases c : t < 3
  ·rw [jobsTo_len ks c]; omega
  ·rw [jobsTo_big ks (by omega)]; exact Nat.zero_le _
set_option maxHeartbeats 2000000 in
theorem s_top_TopWakes {g : TKSet} {kv pv dv : Value} {ks : List Int} {ps : List TPick} {ds : List Int} [a1 : Arg w0 kv byteE ks] [a2 : Arg w0 pv tPickE ps] [a3 : Arg w0 dv byteE ds]
  (hs0 : good TKSetK (tKSetE.enc g)) (hr1 : ∀ x ∈ ks, good [.i .u8] (byteE.enc x)) (hr2 : ∀ x ∈ ps, good TPickK (tPickE.enc x)) (hr3 : ∀ x ∈ ds, good [.i .u8] (byteE.enc x)) (hK : G w0 L (K (.bool true))) :
  G w0 L (CP Tryz.prog Fn.top_TopWakes [.agg (TKSet.cells g).toArray, kv, pv, dv] K) := by
 have hd := good_u8 hr3
 have hk := good_u8 hr1
 refine C_top_TopWakes ?_
 unfold S_top_TopWakes
 refine G.box fun gp => ?_
 refine s_top_awake ?_
 try simp (maxSteps := 2000000) only [fuse_and, fuse_or, fuse_step, fuse_pair, fuse_in, andP_true]
 repeat' (first | (with_reducible refine G.joini0 ?_) | (with_reducible refine G.joini1 ?_) | (with_reducible refine G.drew ?_) | (simp (maxSteps := 2000000) only [↓RG, RP, RB, BEq.rfl, Int.reduceEq, Int.reduceLT, Int.reduceLE, Nat.reduceEqDiff]))
 have mk : ∀ {L : List Asn} {K : KV}, (∀ v, Cells v [v] → G w0 (sl progE v [⟨none, 0, 0⟩, ⟨none, 0, 0⟩, ⟨none, 0, 0⟩] :: L) (K v)) → G w0 L (makeSliceW 24 [.slice none 0 0] (i64 3) (i64 3) K) := fun h => G.make (n := 3) progE ⟨none, 0, 0⟩ rfl (by decide) (by decide) h
 refine mk fun vj hvj => ?_
 refine G.nilsl progE ?_
 refine Big_nil (f := jobF) ?_
 refine Jobs_mk (.slice none 0 0) [] (ps := []) (rs := []) rfl rfl ?_
 refine G.nilsl progE ?_
 refine Big_nil (f := jobF) ?_
 refine Jobs_mk (.slice none 0 0) [] (ps := []) (rs := []) rfl rfl ?_
 refine G.nilsl progE ?_
 refine Big_nil (f := jobF) ?_
 refine Jobs_mk (.slice none 0 0) [] (ps := []) (rs := []) rfl rfl ?_
 refine Big_nil (f := rowF) ?_
 have nR : ∀ {L : List Asn} {F : World → Prop} (l : List (SlV × List (List TIns))), G w0 (ob (BigO rowF) () (l ++ [(⟨none, 0, 0⟩, [])]) :: L) F → G w0 (ob JobsR (.slice none 0 0) [] :: ob (BigO rowF) () l :: L) F := fun l h => by
  rw [Big_snoc] at h; exact h
 refine G.pickAll (As := [ob JobsR (.slice none 0 0) [], ob (BigO rowF) () []]) ?_
 refine nR [] ?_
 simp only [List.cons_append, List.nil_append, List.append_eq]
 refine G.pickAll (As := [ob JobsR (.slice none 0 0) [], ob (BigO rowF) () [(⟨none, 0, 0⟩, [])]]) ?_
 simp only [List.cons_append, List.nil_append, List.append_eq]
 refine nR _ ?_
 simp only [List.cons_append, List.nil_append, List.append_eq]
 refine G.pickAll (As := [ob JobsR (.slice none 0 0) [], ob (BigO rowF) () [(⟨none, 0, 0⟩, []), (⟨none, 0, 0⟩, [])]]) ?_
 simp only [List.cons_append, List.nil_append, List.append_eq]
 refine nR _ ?_
 simp only [List.cons_append, List.nil_append, List.append_eq]
 refine G.loop1 (σ := Nat × List (SlV × List (List TIns))) (fun z => i64 z.1) (fun z => ob (BigO rowF) () z.2 :: sl progE vj (z.2.map (·.1)) :: own gp (TKSet.cells g) :: L)
  (fun z => z.1 ≤ ks.length ∧ z.1 ≤ 18 ∧ z.2.map (·.2) = [(jobsTo ks 0 z.1).map progJ, (jobsTo ks 1 z.1).map progJ, (jobsTo ks 2 z.1).map progJ]) (fun z => 18 - z.1) (0, [(⟨none, 0, 0⟩, []), (⟨none, 0, 0⟩, []), (⟨none, 0, 0⟩, [])]) rfl rfl ⟨Nat.zero_le _, Nat.zero_le _, rfl⟩ ?_
 rintro ⟨i, l⟩ ⟨hi, hi18, hl⟩ J hJ
 simp only at hi hi18 hl hJ ⊢
 try simp (maxSteps := 2000000) only [↓RG, RP, RB, BEq.rfl, Int.reduceEq, Int.reduceLT, Int.reduceLE, Nat.reduceEqDiff]
 refine G.cond (fun h => ?_) (fun h => ?_)
 ·have hi2 : i < ks.length ∧ i < 18 := by simp only [Bool.and_eq_true, decide_eq_true_eq] at h; omega
  have e := elem_of hi2.1
  generalize hkk : ks[i] = k at e
  have h1 := andK_le (a := k.fdiv 4) (b := 3) rfl (by decide)
  have h2 := andK_le (a := k.fdiv 4) (b := 1) rfl (by decide)
  have h3 := andK_le (a := k.fdiv 8) (b := 1) rfl (by decide)
  have e0 : k.fdiv (2 ^ min (2 : Int).toNat IntKind.u8.bits) = k.fdiv 4 := rfl
  have e8 : k.fdiv (2 ^ min (3 : Int).toNat IntKind.u8.bits) = k.fdiv 8 := rfl
  have e1 : IntKind.wrap .i64 (andK (k.fdiv 4) 1) = andK (k.fdiv 4) 1 := wi64 (by omega) (by omega)
  have e2 : IntKind.wrap .i64 (8 + andK (k.fdiv 4) 1) = 8 + andK (k.fdiv 4) 1 := wi64 (by omega) (by omega)
  have e3 : IntKind.wrap .i64 (andK (k.fdiv 8) 1) = andK (k.fdiv 8) 1 := wi64 (by omega) (by omega)
  have e4 : IntKind.wrap .i64 (10 + andK (k.fdiv 8) 1) = 10 + andK (k.fdiv 8) 1 := wi64 (by omega) (by omega)
  have e5 : IntKind.wrap .i64 (andK (k.fdiv 4) 3) = andK (k.fdiv 4) 3 := wi64 (by omega) (by omega)
  have e6 : IntKind.wrap .i64 (8 + andK (k.fdiv 4) 3) = 8 + andK (k.fdiv 4) 3 := wi64 (by omega) (by omega)
  have hj3 : i % 3 < 3 := Nat.mod_lt _ (by decide)
  have hll : l.length = 3 := by have := congrArg List.length hl; simpa using this
  have hat : l[i % 3]? = some l[i % 3] := List.getElem?_eq_getElem (by omega)
  have hrowj : l[i % 3].2 = (jobsTo ks (i % 3) i).map progJ := by
   have h1 : (l.map (·.2))[i % 3]? = some l[i % 3].2 := by rw [List.getElem?_map, hat]; rfl
   rw [hl] at h1
   have h2 : i % 3 = 0 ∨ i % 3 = 1 ∨ i % 3 = 2 := by omega
   rcases h2 with g | g | g <;> simp only [g, List.getElem?_cons_zero, List.getElem?_cons_succ, Option.some.injEq] at h1 ⊢ <;> exact h1.symm
  rcases hlj : l[i % 3] with ⟨sr, row⟩
  rw [hlj] at hat hrowj
  simp only at hrowj
  have er : Elem (l.map (·.1)) (i % 3) sr := ⟨by rw [List.getElem?_map, hat]; rfl⟩
  have ix : IxI ((i : Int).tmod 3) (i % 3) := ⟨rfl⟩
  have hrow : ∀ (q : Nat) (sv : SlV), G w0 (own q [sv.v] :: sl tInsE sv.v (progJ (jobK k)) :: ob (BigO rowF) () l :: sl progE vj (l.map (·.1)) :: own gp (TKSet.cells g) :: L)
    (buildSliceW [.slice none 0 0] 1 [(0, 1, .agg #[sv.v])] (fun x36 => andP (andP (load1W (ep vj 1 (i % 3) 0) (fun v => eqP v (.slice sr.a sr.n sr.c))) trueP) (appendW 1 24 (.slice sr.a sr.n sr.c) x36 (fun x37 => idxW 1 vj (.int .i64 ((i : Int).tmod 3)) (fun x38 => storeW 1 x38 x37 (fun _ => J (.int .i64 (IntKind.wrap .i64 ((i : Int) + 1))))))))) := by
   intro q sv
   refine G.build progE [sv] rfl (by decide) rfl fun y hy => ?_
   repeat' (first | (with_reducible refine G.joini0 ?_) | (with_reducible refine G.joini1 ?_) | (with_reducible refine G.drew ?_) | (simp (maxSteps := 2000000) only [↓RG, RP, RB, BEq.rfl, Int.reduceEq, Int.reduceLT, Int.reduceLE, Nat.reduceEqDiff]))
   refine G.take1 (BigO rowF) () ?_
   rw [Big_at hat]
   show G w0 (ob JobsR sr.v row :: ob (BigO rowF) () (l.eraseIdx (i % 3)) :: _) _
   rw [Jobs_open]
   intro jl hjl
   have hjll : jl.length ≤ 18 := by
    have g1 := congrArg List.length hjl
    have g2 := jobsTo_len ks hj3 i
    simp only [hrowj, List.length_map] at g1
    omega
   refine G.append (E := progE) (xs := jl.map (fun z : SlV × List TIns => z.1)) (ys := [sv]) (by simp only [List.length_map, List.length_singleton]; omega) (by simp only [List.length_map, List.length_singleton, maxLen]; omega) fun u5 h5 => ?_
   refine G.isSl (v := u5) fun s5 hs5 => ?_
   subst hs5
   repeat' (first | (with_reducible refine G.joini0 ?_) | (with_reducible refine G.joini1 ?_) | (with_reducible refine G.drew ?_) | (simp (maxSteps := 2000000) only [↓RG, RP, RB, BEq.rfl, Int.reduceEq, Int.reduceLT, Int.reduceLE, Nat.reduceEqDiff]))
   rw [wsucc (by omega)]
   have hn := hJ (i + 1, l.set (i % 3) (s5, row ++ [progJ (jobK k)])) ⟨by simp only; omega, by simp only; omega, by simp only; rw [List.map_set, hl, hrowj, ← hkk]; exact rows_next hi2.1⟩ (by simp only; omega)
   simp only [List.map_set] at hn
   refine G.pickAll (As := [jobF (sv, progJ (jobK k)), ob (BigO jobF) () jl]) ?_
   rw [List.cons_append, List.cons_append, List.nil_append, ← Big_snoc]
   refine Jobs_mk s5.v (jl ++ [(sv, progJ (jobK k))]) (ps := jl.map (fun z : SlV × List TIns => z.1) ++ [sv]) (rs := row ++ [progJ (jobK k)]) (by simp) (by simp [hjl]) ?_
   refine G.pickAll (As := [rowF (s5, row ++ [progJ (jobK k)]), ob (BigO rowF) () (l.eraseIdx (i % 3))]) ?_
   rw [List.cons_append, List.cons_append, List.nil_append, ← Big_set (by omega)]
   exact hn.sub
  have nz3 : NeZ (3 : Int) := ⟨by decide⟩
  repeat' (first | (with_reducible refine G.joini0 ?_) | (with_reducible refine G.joini1 ?_) | (with_reducible refine G.drew ?_) | (simp (maxSteps := 2000000) only [↓RG, RP, RB, BEq.rfl, Int.reduceEq, Int.reduceLT, Int.reduceLE, Nat.reduceEqDiff, and_u8, e0, e8, e1, e2, e3, e4, e5, e6]))
  refine ⟨?_, ?_⟩
  all_goals
   first
    | (refine s_top_takes fun sv => ?_; refine G.new fun q => ?_)
    | (refine G.new fun q => ?_; simp (maxSteps := 2000000) only [↓RG, RP, RB, BEq.rfl, Int.reduceEq, Int.reduceLT, Int.reduceLE, Nat.reduceEqDiff]; refine s_top_takes fun sv => ?_)
   by_cases c : 1 < andK k 3
   ·have hP : progJ (jobK k) = putsP (8 + andK (k.fdiv 4) 3) := by unfold jobK; rw [if_pos c]; rfl
    repeat' (first | (with_reducible refine G.joini0 ?_) | (with_reducible refine G.joini1 ?_) | (with_reducible refine G.drew ?_) | (simp (maxSteps := 2000000) only [↓RG, RP, RB, BEq.rfl, Int.reduceEq, Int.reduceLT, Int.reduceLE, Nat.reduceEqDiff, and_u8, e0, e8, e1, e2, e3, e4, e5, e6, c]))
    refine s_top_puts fun sp => ?_
    repeat' (first | (with_reducible refine G.joini0 ?_) | (with_reducible refine G.joini1 ?_) | (with_reducible refine G.drew ?_) | (simp (maxSteps := 2000000) only [↓RG, RP, RB, BEq.rfl, Int.reduceEq, Int.reduceLT, Int.reduceLE, Nat.reduceEqDiff]))
    rw [hP] at hrow
    exact (hrow q sp).sub
   ·have hP : progJ (jobK k) = takesP (8 + andK (k.fdiv 4) 1) (10 + andK (k.fdiv 8) 1) := by unfold jobK; rw [if_neg c]; rfl
    repeat' (first | (with_reducible refine G.joini0 ?_) | (with_reducible refine G.joini1 ?_) | (with_reducible refine G.drew ?_) | (simp (maxSteps := 2000000) only [↓RG, RP, RB, BEq.rfl, Int.reduceEq, Int.reduceLT, Int.reduceLE, Nat.reduceEqDiff, and_u8, e0, e8, e1, e2, e3, e4, e5, e6, c]))
    rw [hP] at hrow
    exact (hrow q sv).sub
 ·
  have hiN : i = min ks.length 18 := by
   have : ¬ (i < ks.length ∧ i < 18) := fun g => by
    have : (decide ((i : Int) < ks.length) && decide ((i : Int) < 18)) = true := by simp; omega
    rw [this] at h; cases h
   omega
  have hgs : 0 ≤ g.start := (inK_u64 hs0.2.2.2.2.2.2.2.2.2.2.2.2.2.1).1
  have hW := woOf_ok (ks := ks) hgs hi18
  have hrs := ini_rs (s := setupOf g) hW rfl
  have hini := ini_inv hW
  have hR : ((woOf g ks i).P.n 0 : Int) + (woOf g ks i).P.n 1 + (woOf g ks i).P.n 2 ≤ 18 := by
   show ((jobsTo ks 0 i).length : Int) + (jobsTo ks 1 i).length + (jobsTo ks 2 i).length ≤ 18
   rw [jobsTo_len ks (by decide), jobsTo_len ks (by decide), jobsTo_len ks (by decide)]
   omega
  repeat' (first | (with_reducible refine G.joini0 ?_) | (with_reducible refine G.joini1 ?_) | (with_reducible refine G.drew ?_) | (simp (maxSteps := 2000000) only [↓RG, RP, RB, BEq.rfl, Int.reduceEq, Int.reduceLT, Int.reduceLE, Nat.reduceEqDiff]))
  refine s_keep_Setup_Setup (g := g) ?_
  refine Rows_mk vj l rfl hl ?_
  refine s_machine_New (s := setupOf g) (rows := [(jobsTo ks 0 i).map progJ, (jobsTo ks 1 i).map progJ, (jobsTo ks 2 i).map progJ]) (by simp) (by simp) (fun r hr => ?_) hvj fun b => ?_
  ·have hrow : ∀ t, t < 3 → ((jobsTo ks t i).map progJ).length ≤ 6 ∧ ∀ p ∈ (jobsTo ks t i).map progJ, p.length ≤ 1000 := fun t ht => ⟨by rw [List.length_map, jobsTo_len ks ht]; omega, fun p hp => by
    obtain ⟨j, _, rfl⟩ := List.mem_map.1 hp
    exact progJ_len j⟩
   simp only [List.mem_cons, List.not_mem_nil, or_false] at hr
   rcases hr with rfl | rfl | rfl
   ·exact hrow 0 (by decide)
   ·exact hrow 1 (by decide)
   ·exact hrow 2 (by decide)
  change RS (woOf g ks i) (macNew (setupOf g) [(jobsTo ks 0 i).map progJ, (jobsTo ks 1 i).map progJ, (jobsTo ks 2 i).map progJ]) _ _ at hrs
  have hp0 : (macNew (setupOf g) [(jobsTo ks 0 i).map progJ, (jobsTo ks 1 i).map progJ, (jobsTo ks 2 i).map progJ]).picks = 0 := rfl
  generalize macNew (setupOf g) [(jobsTo ks 0 i).map progJ, (jobsTo ks 1 i).map progJ, (jobsTo ks 2 i).map progJ] = x0 at hrs hp0 ⊢
  have hwj : ∀ t, (woOf g ks i).jobs t = jobsTo ks t i := fun _ => rfl
  generalize woOf g ks i = W at *
  repeat' (first | (with_reducible refine G.joini0 ?_) | (with_reducible refine G.joini1 ?_) | (with_reducible refine G.drew ?_) | (simp (maxSteps := 2000000) only [↓RG, RP, RB, BEq.rfl, Int.reduceEq, Int.reduceLT, Int.reduceLE, Nat.reduceEqDiff]))
  refine G.loop1 (σ := Nat × MacS) (fun z => i64 z.1) (fun z => ob MacR b z.2 :: ob RowsR vj [(jobsTo ks 0 i).map progJ, (jobsTo ks 1 i).map progJ, (jobsTo ks 2 i).map progJ] :: own gp (TKSet.cells g) :: L)
   (fun z => z.1 ≤ ps.length ∧ z.1 ≤ 60 ∧ z.2.picks ≤ 21 * z.1 ∧ ∃ m S, RS W z.2 m S ∧ Inv W.P m S) (fun z => 60 - z.1) (0, x0) rfl rfl ⟨Nat.zero_le _, Nat.zero_le _, by simp only; omega, _, _, hrs, hini⟩ ?_
  rintro ⟨j, x⟩ ⟨hj, hj60, hjp, m, S, hX, hI⟩ J2 hJ2
  simp only at hj hj60 hjp hX hJ2 ⊢
  try simp (maxSteps := 2000000) only [↓RG, RP, RB, BEq.rfl, Int.reduceEq, Int.reduceLT, Int.reduceLE, Nat.reduceEqDiff]
  refine G.cond (fun h2 => ?_) (fun h2 => ?_)
  ·have hj2 : j < ps.length ∧ j < 60 := by simp only [Bool.and_eq_true, decide_eq_true_eq] at h2; omega
   have e := elem_of hj2.1
   have hq := hr2 _ (List.getElem_mem hj2.1)
   generalize ps[j] = q at e hq
   have hdr := inK_u8 hq.2.2.2.1
   have hn := within_in (n := q.n) (lo := 0) (hi := 20) (by decide)
   have ht := within_in (n := q.t) (lo := 0) (hi := 2) (by decide)
   obtain ⟨t, ht2⟩ : ∃ t : Nat, within q.t 0 2 = t := ⟨(within q.t 0 2).toNat, by omega⟩
   refine G.loop1 (σ := Nat × MacS) (fun z => i64 z.1) (fun z => ob MacR b z.2 :: ob RowsR vj [(jobsTo ks 0 i).map progJ, (jobsTo ks 1 i).map progJ, (jobsTo ks 2 i).map progJ] :: own gp (TKSet.cells g) :: L)
    (fun z => (z.1 : Int) ≤ within q.n 0 20 + 1 ∧ z.2.picks ≤ 21 * j + z.1 ∧ ∃ m S, RS W z.2 m S ∧ Inv W.P m S) (fun z => 21 - z.1) (0, x) rfl rfl ⟨by simp only; omega, by simp only; omega, m, S, hX, hI⟩ ?_
   rintro ⟨k, x1⟩ ⟨hk21, hkp, m1, S1, hX1, hI1⟩ J3 hJ3
   simp only at hk21 hkp hX1 hJ3 ⊢
   try simp (maxSteps := 2000000) only [↓RG, RP, RB, BEq.rfl, Int.reduceEq, Int.reduceLT, Int.reduceLE, Nat.reduceEqDiff]
   refine s_top_pick (q := q) (by decide) (by decide) ?_
   try simp (maxSteps := 2000000) only [↓RG, RP, RB, BEq.rfl, Int.reduceEq, Int.reduceLT, Int.reduceLE, Nat.reduceEqDiff]
   refine G.cond (fun h3 => ?_) (fun h3 => ?_)
   ·have hk3 : (k : Int) ≤ within q.n 0 20 := by simp only [decide_eq_true_eq] at h3; exact h3
    repeat' (first | (with_reducible refine G.joini0 ?_) | (with_reducible refine G.joini1 ?_) | (with_reducible refine G.drew ?_) | (simp (maxSteps := 2000000) only [↓RG, RP, RB, BEq.rfl, Int.reduceEq, Int.reduceLT, Int.reduceLE, Nat.reduceEqDiff]))
    refine s_top_who (q := q) (x := x1) hX1.len ?_
    rw [ht2]
    repeat' (first | (with_reducible refine G.joini0 ?_) | (with_reducible refine G.joini1 ?_) | (with_reducible refine G.drew ?_) | (simp (maxSteps := 2000000) only [↓RG, RP, RB, BEq.rfl, Int.reduceEq, Int.reduceLT, Int.reduceLE, Nat.reduceEqDiff]))
    refine s_pickW (i := t) hW (by omega) hI1 hX1 (by omega) hdr.1 hdr.2 fun x' p p0 p8 hr' hpk' => ?_
    repeat' (first | (with_reducible refine G.joini0 ?_) | (with_reducible refine G.joini1 ?_) | (with_reducible refine G.drew ?_) | (simp (maxSteps := 2000000) only [↓RG, RP, RB, BEq.rfl, Int.reduceEq, Int.reduceLT, Int.reduceLE, Nat.reduceEqDiff]))
    rw [wsucc (by omega)]
    exact hJ3 (k + 1, x') ⟨by simp only; omega, by simp only; omega, _, _, hr', step_inv hW.prOk (by omega) hI1 p0 p8⟩ (by simp only; omega)
   ·have hk3 : (k : Int) = within q.n 0 20 + 1 := by simp only [decide_eq_false_iff_not] at h3; omega
    repeat' (first | (with_reducible refine G.joini0 ?_) | (with_reducible refine G.joini1 ?_) | (with_reducible refine G.drew ?_) | (simp (maxSteps := 2000000) only [↓RG, RP, RB, BEq.rfl, Int.reduceEq, Int.reduceLT, Int.reduceLE, Nat.reduceEqDiff]))
    rw [wsucc (by omega)]
    exact hJ2 (j + 1, x1) ⟨hj2.1, hj2.2, by simp only; omega, m1, S1, hX1, hI1⟩ (by simp only; omega)
  ·repeat' (first | (with_reducible refine G.joini0 ?_) | (with_reducible refine G.joini1 ?_) | (with_reducible refine G.drew ?_) | (simp (maxSteps := 2000000) only [↓RG, RP, RB, BEq.rfl, Int.reduceEq, Int.reduceLT, Int.reduceLE, Nat.reduceEqDiff]))
   refine s_top_settled (W := W) hd hW hR (Ahead.start hX hI hR (by omega)) fun x' m' S' hX' hI' hRst => ?_
   repeat' (first | (with_reducible refine G.joini0 ?_) | (with_reducible refine G.joini1 ?_) | (with_reducible refine G.drew ?_) | (simp (maxSteps := 2000000) only [↓RG, RP, RB, BEq.rfl, Int.reduceEq, Int.reduceLT, Int.reduceLE, Nat.reduceEqDiff]))
   have hwl := hX'.mem.wl
   have hww := hW.words
   have hx3 := hX'.len
   refine s_machine_Words (x := x') (by omega) fun u hu => ?_
   refine G.take1 RowsR vj ?_
   rw [Rows_open]
   intro l2 hl2
   refine G.loop1 (σ := Nat) (fun t => i64 t) (fun _ => sl progE vj (l2.map (·.1)) :: ob (BigO rowF) () l2 :: sl wordE u x'.mem.w :: ob MacR b x' :: own gp (TKSet.cells g) :: L) (fun t => t ≤ 3) (fun t => 3 - t) 0 rfl rfl (Nat.zero_le _) ?_
   intro t ht J4 hJ4
   try simp (maxSteps := 2000000) only [↓RG, RP, RB, BEq.rfl, Int.reduceEq, Int.reduceLT, Int.reduceLE, Nat.reduceEqDiff]
   refine G.cond (fun h4 => ?_) (fun h4 => ?_)
   ·have ht3 : t < 3 := by simp only [decide_eq_true_eq] at h4; omega
    obtain ⟨th, hth, hrt⟩ := hX'.thr t ht3
    have hend := end_of hW ht3 hI' hX' hRst hth
    have hjl6 := hW.few t
    rw [hwj] at hend hjl6
    have hll2 : l2.length = 3 := by have := congrArg List.length hl2; simpa using this
    have hat2 : l2[t]? = some l2[t] := List.getElem?_eq_getElem (by omega)
    have hrow2 : l2[t].2 = (jobsTo ks t i).map progJ := by
     have h1 : (l2.map (·.2))[t]? = some l2[t].2 := by rw [List.getElem?_map, hat2]; rfl
     rw [hl2] at h1
     have h2 : t = 0 ∨ t = 1 ∨ t = 2 := by omega
     rcases h2 with g | g | g <;> simp only [g, List.getElem?_cons_zero, List.getElem?_cons_succ, Option.some.injEq] at h1 ⊢ <;> exact h1.symm
    rcases hlt : l2[t] with ⟨sr, row⟩
    rw [hlt] at hat2 hrow2
    simp only at hrow2
    have er : Elem (l2.map (·.1)) t sr := ⟨by rw [List.getElem?_map, hat2]; rfl⟩
    have hn := hJ4 (t + 1) ht3 (by omega)
    have hres : th.res.length ≤ 6 := by rcases hend with ⟨_, g⟩ | ⟨_, a, b, g, _⟩; omega; have := (List.getElem?_eq_some_iff.1 g).1; omega
    repeat' (first | (with_reducible refine G.joini0 ?_) | (with_reducible refine G.joini1 ?_) | (with_reducible refine G.drew ?_) | (simp (maxSteps := 2000000) only [↓RG, RP, RB, BEq.rfl, Int.reduceEq, Int.reduceLT, Int.reduceLE, Nat.reduceEqDiff]))
    refine s_machine_Results (x := x') (i := t) (t := th) hth (by omega) (by omega) fun u3 h3 => ?_
    repeat' (first | (with_reducible refine G.joini0 ?_) | (with_reducible refine G.joini1 ?_) | (with_reducible refine G.drew ?_) | (simp (maxSteps := 2000000) only [↓RG, RP, RB, BEq.rfl, Int.reduceEq, Int.reduceLT, Int.reduceLE, Nat.reduceEqDiff]))
    refine s_machine_State (x := x') hth (by omega) ?_
    refine G.take1 (BigO rowF) () ?_
    rw [Big_at hat2]
    show G w0 (ob JobsR sr.v row :: ob (BigO rowF) () (l2.eraseIdx t) :: _) _
    rw [Jobs_open]
    intro jl hjl
    have hjll : jl.length = (jobsTo ks t i).length := by
     have g1 := congrArg List.length hjl
     simp only [hrow2, List.length_map] at g1
     exact g1
    rcases hend with ⟨g1, g2⟩ | ⟨g1, c, d, g2, g3, g4, g5, g6, g7, g8⟩
    ·have q1 : ¬ th.state = 4 := g1
     have q2 : ((th.res.length : Nat) : Int) = ((jl.map (fun z : SlV × List TIns => z.1)).length : Int) := by rw [List.length_map]; omega
     repeat' (first | (with_reducible refine G.joini0 ?_) | (with_reducible refine G.joini1 ?_) | (with_reducible refine G.drew ?_) | (simp (maxSteps := 2000000) only [↓RG, RP, RB, BEq.rfl, Int.reduceEq, Int.reduceLT, Int.reduceLE, Nat.reduceEqDiff, q1, q2]))
     rw [wsucc (by omega)]
     refine Jobs_mk sr.v jl rfl hjl ?_
     refine Big_row hat2 ?_
     exact hn.sub
    ·have hlt2 := (List.getElem?_eq_some_iff.1 g2).1
     have hjn : ∃ sj, jl[th.res.length]? = some (sj, takesP c d) := by
      have h1 : (jl.map (·.2))[th.res.length]? = some (takesP c d) := by rw [hjl, hrow2, List.getElem?_map, g2]; rfl
      rw [List.getElem?_map] at h1
      cases h2 : jl[th.res.length]? with
      | none => rw [h2] at h1; cases h1
      | some z =>
       rw [h2] at h1
       simp only [Option.map_some, Option.some.injEq] at h1
       exact ⟨z.1, by rw [← h1]⟩
     obtain ⟨sj, hjn⟩ := hjn
     have ej : Elem (jl.map (·.1)) th.res.length sj := ⟨by rw [List.getElem?_map, hjn]; rfl⟩
     refine G.take1 (BigO jobF) () ?_
     rw [Big_at hjn]
     show G w0 (sl tInsE sj.v (takesP c d) :: ob (BigO jobF) () (jl.eraseIdx th.res.length) :: _) _
     have k1 : Elem (takesP c d) 1 ⟨8, 0, 7, c, 0⟩ := ⟨rfl⟩
     have k8 : Elem (takesP c d) 8 ⟨8, 0, 7, d, 0⟩ := ⟨rfl⟩
     have q2 : (((jl.map (fun z : SlV × List TIns => z.1)).length : Int) ≤ ((th.res.length : Nat) : Int)) = False := eq_false (by rw [List.length_map]; omega)
     have q3 : ((takesP c d).length : Int) = 16 := rfl
     have q4 : ((x'.mem.w.length : Int) < 16) = False := eq_false (by omega)
     have wc : Elem x'.mem.w c.toNat 0 := ⟨by
      rw [List.getD_eq_getElem?_getD, List.getElem?_eq_getElem (by omega)] at g3
      rw [List.getElem?_eq_getElem (by omega)]; exact congrArg some g3⟩
     have wd : Elem x'.mem.w d.toNat 0 := ⟨by
      rw [List.getD_eq_getElem?_getD, List.getElem?_eq_getElem (by omega)] at g4
      rw [List.getElem?_eq_getElem (by omega)]; exact congrArg some g4⟩
     have ic : IxI c c.toNat := ⟨by omega⟩
     have id_ : IxI d d.toNat := ⟨by omega⟩
     repeat' (first | (with_reducible refine G.joini0 ?_) | (with_reducible refine G.joini1 ?_) | (with_reducible refine G.drew ?_) | (simp (maxSteps := 2000000) only [↓RG, RP, RB, BEq.rfl, Int.reduceEq, Int.reduceLT, Int.reduceLE, Nat.reduceEqDiff, g1, q2, q3, q4]))
     rw [wsucc (by omega)]
     refine G.pickAll (As := [jobF (sj, takesP c d), ob (BigO jobF) () (jl.eraseIdx th.res.length)]) ?_
     rw [List.cons_append, List.cons_append, List.nil_append, ← Big_at (f := jobF) hjn]
     refine Jobs_mk sr.v jl rfl hjl ?_
     refine Big_row hat2 ?_
     exact hn.sub
   ·repeat' (first | (with_reducible refine G.joini0 ?_) | (with_reducible refine G.joini1 ?_) | (with_reducible refine G.drew ?_) | (simp (maxSteps := 2000000) only [↓RG, RP, RB, BEq.rfl, Int.reduceEq, Int.reduceLT, Int.reduceLE, Nat.reduceEqDiff]))
    exact hK.sub
end
end Go.Proofs.YtoealglbimbbmaaGreatDoor.S.Tw
