import Derived.Test.YtoealglbimbbmaaGreatDoorGMac
import Derived.Test.YtoealglbimbbmaaGreatDoorGPr
namespace Go.Proofs.YtoealglbimbbmaaGreatDoor.S.Tw
open Go Go.Proofs
set_option linter.unusedVariables false
set_option linter.unusedSimpArgs false
abbrev aS : TSet := ⟨40, 4, 1, 1, 0, 0, 9, 20⟩
abbrev aM (w : Int) (l : TLock) (n e c : Int) : MemS := ⟨⟨40, 4, 1, 1, 0⟩, ((List.replicate 40 0).set 5 14).set 6 w, [zeroLock, zeroLock, l, zeroLock], n, [e], c⟩
abbrev aT (A : AttS) (b : Int) : ThrS := ⟨0, aS, [adP], 0, 1, 0, 0, some A, b, 0, [], 0, 0, false, 0, false⟩
abbrev aX (M : MemS) (t : ThrS) (k : Int) : MacS := ⟨aS, M, [t], k⟩
abbrev aB (state : Int) (bg : Bool) : AttS := ⟨0, aS, adS 0 0 [] 0 0 20, tkV 40 9 [] 0, [], state, .none, bg, 0, 0, 0, -1, 0, false⟩
abbrev aFt (state fin : Int) : FetchS := ⟨⟨0, 0, fin, -1, 0⟩, 6, 2, 0, state, zeroLock, 0⟩
abbrev aF (state fin : Int) : AttS := ⟨0, aS, adS 0 0 [] 0 1 20, tkV 40 9 [] 6, [], 3, .fetch (aFt state fin), true, 0, 0, 0, -1, 0, false⟩
abbrev aCm (fin : Int) (was : List TLock) (state : Int) (pos : Nat) (wr : Bool) : ComS := ⟨⟨0, 0, fin, -1, 0⟩, 0, 0, [⟨2, 0⟩], [⟨6, 1⟩], [2], was, state, pos, zeroLock, 0, wr, 0, 0, 0⟩
abbrev aC (M : ComS) (state st fin : Int) : AttS := ⟨0, aS, { adS 1 1 [1] 5 5 15 with fin := 2 }, tkW 40 9 [⟨6, 0⟩] 6 ⟨6, 1⟩, [⟨2, 0⟩], state, .com M, true, 0, st, fin, -1, 0, false⟩
abbrev aEnd : ThrS := ⟨0, aS, [adP], 1, 6, 0, 0, none, 0, 1, [⟨2, 0, textV [1], 1⟩], 0, 0, false, 0, false⟩
def awX : Nat → MacS
 | 0 => aX (aM 0 zeroLock 0 0 1) (aT (aB 0 false) 0) 0
 | 1 => aX (aM 0 zeroLock 0 1 2) (aT (aB 1 false) 0) 1
 | 2 => aX (aM 0 zeroLock 0 1 3) (aT (aB 2 true) 2) 2
 | 3 => aX (aM 0 zeroLock 0 1 4) (aT (aF 0 0) 2) 3
 | 4 => aX (aM 0 zeroLock 0 1 5) (aT (aF 1 0) 2) 4
 | 5 => aX (aM 0 zeroLock 0 1 6) (aT (aF 2 0) 2) 5
 | 6 => aX (aM 0 zeroLock 0 1 7) (aT (aC (aCm 0 [] 0 0 false) 6 0 0) 2) 6
 | 7 => aX (aM 0 zeroLock 0 1 8) (aT (aC (aCm 0 [] 1 0 false) 6 0 0) 2) 7
 | 8 => aX (aM 0 ⟨0, true, 0⟩ 0 1 9) (aT (aC (aCm 0 [zeroLock] 2 0 false) 6 0 0) 2) 8
 | 9 => aX (aM 0 ⟨0, true, 0⟩ 0 1 10) (aT (aC (aCm 0 [zeroLock] 3 0 false) 6 0 0) 2) 9
 | 10 => aX (aM 0 ⟨0, true, 0⟩ 1 1 11) (aT (aC (aCm 0 [zeroLock] 5 0 true) 6 1 0) 2) 10
 | 11 => aX (aM 1 ⟨0, true, 0⟩ 1 1 12) (aT (aC (aCm 0 [zeroLock] 6 0 true) 6 1 0) 2) 11
 | 12 => aX (aM 1 ⟨1, false, 0⟩ 1 1 13) (aT (aC (aCm 2 [zeroLock] 6 1 true) 7 1 2) 2) 12
 | k + 13 => aX (aM 1 ⟨1, false, 0⟩ 1 0 14) aEnd (k + 13)
theorem aw_new : macNew ⟨40, 4, 0, 0, 0, 0, 9, 20⟩ [[adP]] = awX 0 := by
 have e : intGNew adP 20 = adS 0 0 [] 0 0 20 := ad_new
 have h : setHeld ⟨40, 4, 0, 0, 0, 0, 9, 20⟩ 1 = aS := by rfl
 have hA : attNew 0 aS adP = aB 0 false := by
  show (⟨0, aS, intGNew adP 20, tkV 40 9 [] 0, [], 0, .none, false, 0, 0, 0, -1, 0, false⟩ : AttS) = _
  rw [e]
 have ht : thrNew 0 aS [adP] = aT (aB 0 false) 0 := by
  rw [← hA]
  rfl
 show (⟨setHeld ⟨40, 4, 0, 0, 0, 0, 9, 20⟩ 1, memFill (newMem (setHeld ⟨40, 4, 0, 0, 0, 0, 9, 20⟩ 1).shape) 6, [thrNew 0 (setHeld ⟨40, 4, 0, 0, 0, 0, 9, 20⟩ 1) [adP]], 0⟩ : MacS) = _
 rw [h, ht]
 rfl
theorem aw_jobs {A : AttS} {b : Int} : JobsOk (aT A b) := ⟨by show (0 : Int) ≤ 0; decide, by show (0 : Int) ≤ 1; decide, fun p hp => by rw [List.mem_singleton.1 hp]; simp⟩
theorem aw_step {M M' : MemS} {A A' : AttS} {o : TOp} {ans : TAns} {b b' k : Int} (hk : 0 ≤ k ∧ k < 100) (hn : attNext A = (o, true)) (hm : memDo M o = (M', ans)) (ht : TellOk A ans) (hA : attTell A ans = A') (h8 : A'.state ≠ 8) (hb : (if A'.begun && !A.begun then k + 1 else b) = b')
  (hok : A.state ≠ 0 → A.state ≠ 1 → A.state ≠ 2 → A.state ≠ 7 → A.state ≠ 8 → A.inn.ok) :
  PickOk (aX M (aT A b) k) 0 (aT A b) ∧ (if (thrNext (aT A b)).2 = true then macTell (aX M (aT A b) k) 0 (aT A b) 0 else macRest (aX M (aT A b) k) 0 (aT A b)) = aX M' (aT A' b') (k + 1) := by
 have en : thrNext (aT A b) = (o, true) := by unfold thrNext; rw [if_pos rfl]; exact hn
 have et : thrTell (aT A b) ans 0 (k + 1) = aT A' b' := by
  unfold thrTell
  rw [if_pos rfl]
  simp only [hA]
  unfold thrHeard
  rw [if_neg (fun g => h8 g.1), hb]
 refine ⟨⟨rfl, by show 1 ≤ 4; decide, by show 0 ≤ k ∧ k < 1000000000; omega, by show (1 : Int) ≠ 5; decide, fun _ => ⟨A, rfl, hok⟩, aw_jobs, fun g => (by rw [en] at g; cases g), fun _ => ?_, fun i u hu hi => ?_⟩, ?_⟩
 ·rw [en]
  simp only
  rw [hm]
  exact ⟨aw_jobs, by show 1 ≤ 1000000; decide, by show 0 ≤ 1000000; decide, by show 0 ≤ 1000000; decide, fun _ => ⟨A, rfl, ht, fun g => absurd (hA ▸ g) h8⟩⟩
 ·cases i with
  | zero => exact absurd rfl hi
  | succ i => cases hu
 ·rw [en, if_pos rfl]
  unfold macTell
  rw [en]
  simp only
  rw [hm]
  simp only
  rw [et]
  have e1 : ∀ s v, wakeTo 0 s v 1 [aT A' b'] = [aT A' b'] := fun s v => rfl
  split
  ·show (⟨aS, M', wakeTo 0 o.place o.lock.version 1 [aT A' b'], k + 1⟩ : MacS) = _
   rw [e1]
  ·rfl
theorem aw_com {M M' : ComS} {st : Int} {ans : TAns} (hM : ComOk M) (h : comTell M ans = M') (he : ans.err = 0) : TellOk (aC M 6 st 0) ans ∧ ComOk M' :=
 have h2 := comTell_ok hM ans
 ⟨⟨he, fun g => (by cases g), fun _ _ _ _ _ => ⟨hM, h2, fun f e => (by cases e), fun f e => (by cases e), fun m e => rfl⟩⟩, h ▸ h2⟩
theorem aw_m0 : ComOk (aCm 0 [] 0 0 false) :=
 ⟨⟨List.pairwise_singleton _ _, by simp, by simp, by simp, by simp⟩, by decide, by decide, fun _ => ⟨fun _ => by decide, fun g => by simp at g, fun g => by simp at g, fun g => by simp at g, fun g => by simp at g, fun g => by simp at g⟩⟩
theorem awX_step : ∀ k : Nat, k < 40 → ∃ t, (awX k).thr = [t] ∧ PickOk (awX k) 0 t ∧ (if (thrNext t).2 = true then macTell (awX k) 0 t 0 else macRest (awX k) 0 t) = awX (k + 1) := by
 have m1 := aw_com (st := 0) (ans := ⟨0, zeroLock, false, 0⟩) aw_m0 (show comTell (aCm 0 [] 0 0 false) ⟨0, zeroLock, false, 0⟩ = aCm 0 [] 1 0 false from rfl) rfl
 have m2 := aw_com (st := 0) (ans := ⟨0, zeroLock, true, 0⟩) m1.2 (show comTell (aCm 0 [] 1 0 false) ⟨0, zeroLock, true, 0⟩ = aCm 0 [zeroLock] 2 0 false from rfl) rfl
 have m3 := aw_com (st := 0) (ans := ⟨0, zeroLock, false, 0⟩) m2.2 (show comTell (aCm 0 [zeroLock] 2 0 false) ⟨0, zeroLock, false, 0⟩ = aCm 0 [zeroLock] 3 0 false from rfl) rfl
 have m4 := aw_com (st := 0) (ans := ⟨0, zeroLock, true, 0⟩) m3.2 (show comTell (aCm 0 [zeroLock] 3 0 false) ⟨0, zeroLock, true, 0⟩ = aCm 0 [zeroLock] 5 0 true from rfl) rfl
 have m5 := aw_com (st := 1) (ans := zeroAns) m4.2 (show comTell (aCm 0 [zeroLock] 5 0 true) zeroAns = aCm 0 [zeroLock] 6 0 true from rfl) rfl
 have m6 := aw_com (st := 1) (ans := zeroAns) m5.2 (show comTell (aCm 0 [zeroLock] 6 0 true) zeroAns = aCm 2 [zeroLock] 6 1 true from rfl) rfl
 have hM0 : (aM 0 zeroLock 0 0 1).w.length = 40 := rfl
 have r0 := run_ad0 (n := 499)
 have r1 := run_ad1 (n := 494)
 intro k hk
 match k, hk with
 | 0, _ => exact ⟨_, rfl, aw_step (by decide) rfl (by rfl) ⟨rfl, fun g => (by cases g), fun g => absurd rfl g⟩ (by rfl) (by decide) (by rfl) (fun g => absurd rfl g)⟩
 | 1, _ => exact ⟨_, rfl, aw_step (by decide) rfl (by rfl) ⟨rfl, fun g => (by cases g), fun _ g => absurd rfl g⟩ (by rfl) (by decide) (by rfl) (fun _ g => absurd rfl g)⟩
 | 2, _ =>
  refine ⟨_, rfl, aw_step (A' := aF 0 0) (by decide) rfl (by rfl) ⟨rfl, fun _ => ⟨r0.1, rfl, Nat.zero_le _, by show (iRun 500 (adS 0 0 [] 0 0 20) (tkV 40 9 [] 0)).2.1.l.cells.length ≤ 1000; rw [r0.2]; exact Nat.zero_le _⟩, fun _ _ g => absurd rfl g⟩ ?_ (by decide) (by rfl) (fun _ _ g => absurd rfl g)⟩
  show attDid (aB 2 true) (iRun 500 (adS 0 0 [] 0 0 20) (tkV 40 9 [] 0)) = _
  rw [r0.2]
  rfl
 | 3, _ => exact ⟨_, rfl, aw_step (by decide) rfl (by rfl) ⟨rfl, fun g => (by cases g), fun _ _ _ _ _ => ⟨trivial, trivial, fun f e => (by cases e; exact ⟨rfl, .inl rfl⟩), fun f e => (by cases e), fun f e => (by cases e)⟩⟩ (by rfl) (by decide) (by rfl) (fun _ _ _ _ _ => trivial)⟩
 | 4, _ => exact ⟨_, rfl, aw_step (by decide) rfl (by rfl) ⟨rfl, fun g => (by cases g), fun _ _ _ _ _ => ⟨trivial, trivial, fun f e => (by cases e; exact ⟨rfl, .inl rfl⟩), fun f e => (by cases e), fun f e => (by cases e)⟩⟩ (by rfl) (by decide) (by rfl) (fun _ _ _ _ _ => trivial)⟩
 | 5, _ =>
  have hY : attKnow (aF 2 2) (aFt 2 2) = ⟨0, aS, adS 0 0 [] 0 1 20, tkV 40 9 [⟨6, 0⟩] 6, [⟨2, 0⟩], 3, .fetch (aFt 2 2), true, 0, 0, 0, -1, 0, false⟩ := by rfl
  refine ⟨_, rfl, aw_step (A' := aC (aCm 0 [] 0 0 false) 6 0 0) (by decide) rfl (by rfl) ⟨rfl, fun g => (by cases g), fun _ _ _ _ _ => ⟨trivial, trivial, fun f e => ?_, fun f e => (by cases e), fun f e => (by cases e)⟩⟩ ?_ (by decide) (by rfl) (fun _ _ _ _ _ => trivial)⟩
  ·cases e
   refine ⟨rfl, .inr (.inr ⟨.inr rfl, Nat.zero_le _, Nat.zero_le _, fun _ _ => ?_⟩)⟩
   show WorkOk (attKnow (aF 2 2) (aFt 2 2))
   rw [hY]
   exact ⟨r1.1, rfl, by show 1 ≤ 1000; decide, by show (iRun 500 (adS 0 0 [] 0 1 20) (tkV 40 9 [⟨6, 0⟩] 6)).2.1.l.cells.length ≤ 1000; rw [r1.2]; show 1 ≤ 1000; decide⟩
  ·have e1 : attTell (aF 2 0) ⟨0, zeroLock, false, 0⟩ = attMark (attFetched (aF 2 2) (aFt 2 2)) := rfl
   have e2 : attFetched (aF 2 2) (aFt 2 2) = attWork (attKnow (aF 2 2) (aFt 2 2)) := rfl
   show attTell (aF 2 0) ⟨0, zeroLock, false, 0⟩ = _
   rw [e1, e2, hY]
   unfold attWork
   simp only
   rw [r1.2]
   rfl
 | 6, _ => exact ⟨_, rfl, aw_step (by decide) rfl (by rfl) m1.1 (by rfl) (by decide) (by rfl) (fun _ _ _ _ _ => aw_m0)⟩
 | 7, _ => exact ⟨_, rfl, aw_step (by decide) rfl (by rfl) m2.1 (by rfl) (by decide) (by rfl) (fun _ _ _ _ _ => m1.2)⟩
 | 8, _ => exact ⟨_, rfl, aw_step (by decide) rfl (by rfl) m3.1 (by rfl) (by decide) (by rfl) (fun _ _ _ _ _ => m2.2)⟩
 | 9, _ => exact ⟨_, rfl, aw_step (by decide) rfl (by rfl) m4.1 (by rfl) (by decide) (by rfl) (fun _ _ _ _ _ => m3.2)⟩
 | 10, _ => exact ⟨_, rfl, aw_step (by decide) rfl (by rfl) m5.1 (by rfl) (by decide) (by rfl) (fun _ _ _ _ _ => m4.2)⟩
 | 11, _ => exact ⟨_, rfl, aw_step (by decide) rfl (by rfl) m6.1 (by rfl) (by decide) (by rfl) (fun _ _ _ _ _ => m5.2)⟩
 | 12, _ =>
  have et : attTell (aC (aCm 2 [zeroLock] 6 1 true) 7 1 2) zeroAns = aC (aCm 2 [zeroLock] 6 1 true) 8 1 2 := rfl
  refine ⟨_, rfl, ⟨rfl, by show 1 ≤ 4; decide, by show (0 : Int) ≤ 12 ∧ (12 : Int) < 1000000000; decide, by show (1 : Int) ≠ 5; decide, fun _ => ⟨_, rfl, fun _ _ _ g => absurd rfl g⟩, aw_jobs, fun g => (by cases g), fun _ => ?_, fun i u hu hi => ?_⟩, by rfl⟩
  ·refine ⟨aw_jobs, by show 1 ≤ 1000000; decide, by show 0 ≤ 1000000; decide, by show 0 ≤ 1000000; decide, fun _ => ⟨_, rfl, ⟨rfl, fun g => (by cases g), fun _ _ _ g => absurd rfl g⟩, fun _ => ⟨⟨rfl, by show 1 ≤ 1000; decide, by show 1 ≤ 1000; decide, rfl, fun _ => .inr ⟨rfl, fun n hn => by rw [List.mem_singleton.1 hn]; decide⟩⟩, by show (0 : Int) < 1; decide⟩⟩⟩
  ·cases i with
   | zero => exact absurd rfl hi
   | succ i => cases hu
 | k + 13, hk =>
  refine ⟨aEnd, rfl, ⟨rfl, by show 1 ≤ 4; decide, by show 0 ≤ ((k + 13 : Nat) : Int) ∧ ((k + 13 : Nat) : Int) < 1000000000; omega, by show (6 : Int) ≠ 5; decide, fun g => (by cases g), ⟨by show (0 : Int) ≤ 1; decide, by show (1 : Int) ≤ 1; decide, fun p hp => by rw [List.mem_singleton.1 hp]; simp⟩, fun _ g => (by cases g), fun g => (by cases g), fun i u hu hi => ?_⟩, ?_⟩
  ·cases i with
   | zero => exact absurd rfl hi
   | succ i => cases hu
  ·show aX (aM 1 ⟨1, false, 0⟩ 1 0 14) aEnd (((k + 13 : Nat) : Int) + 1) = aX (aM 1 ⟨1, false, 0⟩ 1 0 14) aEnd ((k + 1 + 13 : Nat) : Int)
   congr 1
end Go.Proofs.YtoealglbimbbmaaGreatDoor.S.Tw
