import Derived.Test.YtoealglbimbbmaaGreatDoorBook
namespace Go.Proofs.YtoealglbimbbmaaGreatDoor.S
open Go Go.Proofs
set_option linter.unusedVariables false
set_option linter.unusedSimpArgs false
def isLock (l : TLock) : Bool := if l.held then decide (l.version < 4611686018427387904) && (decide (0 ≤ l.owner) && decide (l.owner < 4)) else decide (l.version < 4611686018427387904) && decide (l.owner = 0)
def zeroLock : TLock := ⟨0, false, 0⟩
def inLen (i : Int) (n : Nat) : Bool := decide (0 ≤ i) && decide (i < n)
theorem inLen_elim {i : Int} {n : Nat} (h : inLen i n = true) : ∃ k : Nat, i = k ∧ k < n := by
 simp [inLen] at h
 exact ⟨i.toNat, by omega, by omega⟩
theorem inLen_nat {k n : Nat} (h : k < n) : inLen (k : Int) n = true := by simp [inLen]; omega
def stripeOf (a n wide : Int) : Int := if a < 0 then -1 else (IntKind.wrap .i64 (a.tdiv (held wide 1 16))).tmod (held n 1 16)
def loadRes (ls : List TLock) (i : Int) : TLock × Int := if inLen i ls.length then (ls.getD i.toNat zeroLock, 0) else (zeroLock, 2)
def mayErr (ls : List TLock) (i : Int) (l : TLock) : Int := if inLen i ls.length then (if isLock l then 0 else 1) else 2
def casRes (ls : List TLock) (i : Int) (was l : TLock) : List TLock × Bool × Int :=
 if mayErr ls i l = 0 then (if ls.getD i.toNat zeroLock = was then (ls.set i.toNat l, true, 0) else (ls, false, 0)) else (ls, false, mayErr ls i l)
def storeRes (ls : List TLock) (i : Int) (l : TLock) : List TLock × Int := if mayErr ls i l = 0 then (ls.set i.toNat l, 0) else (ls, mayErr ls i l)
theorem mayErr_zero {ls : List TLock} {i : Int} {l : TLock} (h : mayErr ls i l = 0) : ∃ k : Nat, i = k ∧ k < ls.length ∧ isLock l = true := by
 unfold mayErr at h
 split at h
 ·rename_i h1
  obtain ⟨k, rfl, hk⟩ := inLen_elim h1
  split at h
  ·exact ⟨k, rfl, hk, by assumption⟩
  ·omega
 ·omega
def TableR (b : Nat) (s : List TLock × Int) : Asn := exA fun v => star (pureA (Cells v [v])) (star (own b [v, i64 s.2]) (sl tLockE v s.1))
def heldUpTo (ls : List TLock) (o : Int) (k : Nat) : List Int := ((List.range k).filter fun i => (ls.getD i zeroLock).held && decide ((ls.getD i zeroLock).owner = o)).map fun i : Nat => (i : Int)
theorem getD_lock {ls : List TLock} {k : Nat} (h : k < ls.length) : ls.getD k zeroLock = ls[k] := by simp [h]
section
variable {w0 : Base} {L M : List Asn} {K : KV} {F : World → Prop} {C : Asn → List Asn} {b : Nat} {ls : List TLock} {wide : Int}
theorem TableR_open : G w0 (ob TableR b (ls, wide) :: M) F = ∀ v, Cells v [v] → G w0 (own b [v, i64 wide] :: sl tLockE v ls :: M) F := by
 rw [ob_eq, TableR]
 simp only [G_ex, G_star, G_pure]
theorem s_lock_owns {o : Int} (hK : G w0 L (K (.bool (decide (0 ≤ o) && decide (o < 4))))) : G w0 L (CP Tryz.prog Fn.lock_owns [i64 o] K) := by
 refine C_lock_owns ?_
 unfold S_lock_owns
 try simp (maxSteps := 2000000) only [fuse_and, fuse_or, fuse_step, fuse_pair, fuse_in, andP_true]
 refine gr ?_
 exact hK
theorem s_lock_Is {v o : Int} {h : Bool} (hK : G w0 L (K (.bool (isLock ⟨v, h, o⟩)))) : G w0 L (CP Tryz.prog Fn.lock_Is [.agg #[u64 v, .bool h, i64 o]] K) := by
 refine C_lock_Is ?_
 unfold S_lock_Is
 try simp (maxSteps := 2000000) only [fuse_and, fuse_or, fuse_step, fuse_pair, fuse_in, andP_true]
 refine G.box fun p => ?_
 refine gr ?_
 cases h
 ·refine gr ?_
  refine G.all (decide (o = 0)) (fun _ K hK => by refine gr ?_; exact hK) ?_
  exact hK.sub
 ·refine gr ?_
  refine G.all (decide (0 ≤ o) && decide (o < 4)) (fun _ K hK => ?_) ?_
  ·refine gr ?_
   exact s_lock_owns hK
  ·exact hK.sub
theorem near_core {n : Int} : (if (if (16 : Int) < n then (16 : Int) else n) > 1 then (if (16 : Int) < n then (16 : Int) else n) else 1) = held n 1 16 := by
 unfold held; split <;> split <;> (try split) <;> (try split) <;> omega
theorem s_stripe_near {n : Int} (hK : G w0 L (K (i64 (held n 1 16)))) : G w0 L (CP Tryz.prog Fn.stripe_near [i64 n, i64 16] K) := by
 refine C_stripe_near ?_
 unfold S_stripe_near
 refine gr ?_
 rw [near_core]
 exact hK
theorem held_ne (n : Int) : NeZ (held n 1 16) := ⟨by have := held_le (n := n) (show (1 : Int) ≤ 16 by omega); omega⟩
theorem s_stripe_Of {a n wd : Int} (hK : G w0 L (K (i64 (stripeOf a n wd)))) : G w0 L (CP Tryz.prog Fn.stripe_Of [i64 a, i64 n, i64 wd] K) := by
 refine C_stripe_Of ?_
 unfold S_stripe_Of
 unfold stripeOf at hK
 have n1 := held_ne wd
 have n2 := held_ne n
 refine gr ?_
 refine G.cond (fun h => ?_) (fun h => ?_)
 ·rw [if_pos (by simpa using h)] at hK
  exact hK
 ·rw [if_neg (by simpa using h)] at hK
  refine G.drew ?_
  refine s_stripe_near ?_
  refine gr ?_
  refine s_stripe_near ?_
  refine gr ?_
  exact hK
theorem s_stripe_New {n wd : Int} (hK : ∀ b, G w0 (ob TableR b (List.replicate (held n 1 16).toNat zeroLock, held wd 1 16) :: L) (K (ptr b 0))) : G w0 L (CP Tryz.prog Fn.stripe_New [i64 n, i64 wd] K) := by
 refine C_stripe_New ?_
 unfold S_stripe_New
 have hb := held_le (n := n) (show (1 : Int) ≤ 16 by omega)
 have eh : i64 (held n 1 16) = i64 ((held n 1 16).toNat : Nat) := by rw [Int.toNat_of_nonneg (by omega)]
 refine G.drew ?_
 refine s_stripe_near ?_
 refine grf eh ?_
 refine ⟨?_, ?_⟩
 ·refine G.make tLockE zeroLock rfl (by simp only [maxLen]; omega) (by omega) fun v hv => ?_
  refine gr ?_
  refine s_stripe_near ?_
  refine gr ?_
  refine G.box fun b => ?_
  refine gr ?_
  have := hK b
  rw [TableR_open] at this
  exact this v hv
 ·refine s_stripe_near ?_
  refine gr ?_
  refine G.make tLockE zeroLock rfl (by simp only [maxLen]; omega) (by omega) fun v hv => ?_
  refine gr ?_
  refine G.box fun b => ?_
  refine gr ?_
  have := hK b
  rw [TableR_open] at this
  exact this v hv
theorem s_stripe_Table_is {n : Int} [i : SelOb L TableR b (ls, wide) C] (hK : G w0 L (K (.bool (inLen n ls.length)))) : G w0 L (CP Tryz.prog Fn.stripe_Table_is [ptr b 0, i64 n] K) := by
 refine i.ro (fun M hK => ?_) hK
 rw [TableR_open] at *
 intro v hv
 refine C_stripe_Table_is ?_
 unfold S_stripe_Table_is
 try simp (maxSteps := 2000000) only [fuse_and, fuse_or, fuse_step, fuse_pair, fuse_in, andP_true]
 refine gr ?_
 refine G.all (decide (n < ls.length)) (fun _ K hK => by refine gr ?_; exact hK) ?_
 exact hK v hv
theorem s_stripe_Table_Load {n : Int} [i : SelOb L TableR b (ls, wide) C] (hK : G w0 L (K (.tuple #[.agg #[u64 (loadRes ls n).1.version, .bool (loadRes ls n).1.held, i64 (loadRes ls n).1.owner], i64 (loadRes ls n).2]))) : G w0 L (CP Tryz.prog Fn.stripe_Table_Load [ptr b 0, i64 n] K) := by
 refine i.ro (fun M hK => ?_) hK
 refine C_stripe_Table_Load ?_
 unfold S_stripe_Table_Load
 refine G.new fun p => ?_
 refine s_stripe_Table_is (ls := ls) ?_
 unfold loadRes at hK
 cases hn : inLen n ls.length
 ·rw [hn] at hK
  refine gr ?_
  exact hK.sub
 ·rw [hn] at hK
  obtain ⟨k, rfl, hk⟩ := inLen_elim hn
  simp only [if_true, Int.toNat_natCast, getD_lock hk] at hK
  rw [TableR_open] at hK
  refine gr ?_
  rw [G_swap, TableR_open]
  intro v hv
  have e := elem_of hk
  refine gr ?_
  exact (hK v hv).sub
theorem s_stripe_Table_may {n v o : Int} {h : Bool} [i : SelOb L TableR b (ls, wide) C] (hK : G w0 L (K (i64 (mayErr ls n ⟨v, h, o⟩)))) : G w0 L (CP Tryz.prog Fn.stripe_Table_may [ptr b 0, i64 n, .agg #[u64 v, .bool h, i64 o]] K) := by
 refine i.ro (fun M hK => ?_) hK
 refine C_stripe_Table_may ?_
 unfold S_stripe_Table_may
 refine G.box fun p => ?_
 refine s_stripe_Table_is (ls := ls) ?_
 unfold mayErr at hK
 cases hn : inLen n ls.length
 ·rw [hn] at hK
  refine gr ?_
  exact hK.sub
 ·rw [hn] at hK
  refine gr ?_
  refine s_lock_Is ?_
  cases hl : isLock ⟨v, h, o⟩
  ·rw [hl] at hK
   refine gr ?_
   exact hK.sub
  ·rw [hl] at hK
   refine gr ?_
   exact hK.sub
theorem s_stripe_Table_Cas {n v o v2 o2 : Int} {h h2 : Bool} [i : SelOb L TableR b (ls, wide) C]
  (hK : G w0 (C (ob TableR b ((casRes ls n ⟨v, h, o⟩ ⟨v2, h2, o2⟩).1, wide))) (K (.tuple #[.bool (casRes ls n ⟨v, h, o⟩ ⟨v2, h2, o2⟩).2.1, i64 (casRes ls n ⟨v, h, o⟩ ⟨v2, h2, o2⟩).2.2]))) :
  G w0 L (CP Tryz.prog Fn.stripe_Table_Cas [ptr b 0, i64 n, .agg #[u64 v, .bool h, i64 o], .agg #[u64 v2, .bool h2, i64 o2]] K) := by
 refine i.use (fun M hK => ?_) hK
 refine C_stripe_Table_Cas ?_
 unfold S_stripe_Table_Cas
 refine G.box fun p => ?_
 refine G.box fun p2 => ?_
 refine gr ?_
 refine s_stripe_Table_may (ls := ls) ?_
 unfold casRes at hK
 by_cases hm : mayErr ls n ⟨v2, h2, o2⟩ = 0
 ·obtain ⟨k, rfl, hk, _⟩ := mayErr_zero hm
  simp only [hm, if_true, Int.toNat_natCast, getD_lock hk] at hK
  refine grf hm ?_
  rw [G_rot3, TableR_open]
  intro u hu
  have e := elem_of hk
  refine G.drew ?_
  simp only [↓RG, RP, RB, BEq.rfl, Int.reduceEq, Int.reduceLT, Int.reduceLE, Nat.reduceEqDiff, TLock.eqb ls[k] ⟨v, h, o⟩]
  by_cases he : ls[k] = ⟨v, h, o⟩
  ·simp only [he, if_true] at hK
   rw [TableR_open] at hK
   refine grf he ?_
   refine G.drew ?_
   refine gr ?_
   exact (hK u hu).sub
  ·simp only [he, if_false] at hK
   rw [TableR_open] at hK
   refine grf he ?_
   exact (hK u hu).sub
 ·simp only [hm, if_false] at hK
  refine grf hm ?_
  exact hK.sub
theorem s_stripe_Table_Store {n v o : Int} {h : Bool} [i : SelOb L TableR b (ls, wide) C]
  (hK : G w0 (C (ob TableR b ((storeRes ls n ⟨v, h, o⟩).1, wide))) (K (i64 (storeRes ls n ⟨v, h, o⟩).2))) :
  G w0 L (CP Tryz.prog Fn.stripe_Table_Store [ptr b 0, i64 n, .agg #[u64 v, .bool h, i64 o]] K) := by
 refine i.use (fun M hK => ?_) hK
 refine C_stripe_Table_Store ?_
 unfold S_stripe_Table_Store
 refine G.box fun p => ?_
 refine gr ?_
 refine s_stripe_Table_may (ls := ls) ?_
 unfold storeRes at hK
 refine gr ?_
 refine G.joini0 ?_
 by_cases hm : mayErr ls n ⟨v, h, o⟩ = 0
 ·obtain ⟨k, rfl, hk, _⟩ := mayErr_zero hm
  simp only [hm, if_true, Int.toNat_natCast] at hK
  rw [TableR_open] at hK
  refine grf hm ?_
  rw [G_swap, TableR_open]
  intro u hu
  have e := elem_of hk
  refine G.drew ?_
  refine gr ?_
  exact (hK u hu).sub
 ·simp only [hm, if_false] at hK
  refine grf hm ?_
  exact hK.sub
end
end Go.Proofs.YtoealglbimbbmaaGreatDoor.S
