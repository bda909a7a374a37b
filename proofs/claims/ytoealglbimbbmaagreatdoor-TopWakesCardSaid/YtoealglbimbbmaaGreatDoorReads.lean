import Derived.Test.YtoealglbimbbmaaGreatDoorStripe
import Derived.Test.YtoealglbimbbmaaGreatDoorLimbo
import Derived.Test.YtoealglbimbbmaaGreatDoorBook
namespace Go.Proofs.YtoealglbimbbmaaGreatDoor.S
open Go Go.Proofs
set_option linter.unusedVariables false
set_option linter.unusedSimpArgs false
structure MemS where
 shape : TShape
 w : List Int
 l : List TLock
 n : Int
 s : List Int
 count : Int
def zeroAns : TAns := ⟨0, zeroLock, false, 0⟩
def errAns (e : Int) : TAns := ⟨0, zeroLock, false, e⟩
def memStep (m : MemS) (o : TOp) : MemS × TAns :=
 if o.kind = 1 then (if inHeap o.place m.w then (m, ⟨m.w.getD o.place.toNat 0, zeroLock, false, 0⟩) else (m, errAns 2))
 else if o.kind = 2 then (if inHeap o.place m.w then ({ m with w := m.w.set o.place.toNat o.word }, zeroAns) else (m, errAns 2))
 else if o.kind = 3 then (m, ⟨0, (loadRes m.l o.place).1, false, (loadRes m.l o.place).2⟩)
 else if o.kind = 4 then ({ m with l := (casRes m.l o.place o.was o.lock).1 }, ⟨0, zeroLock, (casRes m.l o.place o.was o.lock).2.1, (casRes m.l o.place o.was o.lock).2.2⟩)
 else if o.kind = 5 then ({ m with l := (storeRes m.l o.place o.lock).1 }, ⟨0, zeroLock, false, (storeRes m.l o.place o.lock).2⟩)
 else if o.kind = 6 then (m, ⟨m.n, zeroLock, false, 0⟩)
 else if o.kind = 7 then (if o.word ≤ o.old then (m, errAns 1) else if 4611686018427387904 ≤ o.word then (m, errAns 7) else if m.n = o.old then ({ m with n := o.word }, ⟨0, zeroLock, true, 0⟩) else (m, zeroAns))
 else if o.kind = 8 then (if inLen o.place m.s.length then (m, ⟨m.s.getD o.place.toNat 0, zeroLock, false, 0⟩) else (m, errAns 2))
 else if o.kind = 9 then (if inLen o.place m.s.length then ({ m with s := m.s.set o.place.toNat o.word }, zeroAns) else (m, errAns 2))
 else (m, errAns 1)
def memDo (m : MemS) (o : TOp) : MemS × TAns :=
 if (memStep m o).2.err = 0 then ({ (memStep m o).1 with count := IntKind.wrap .i64 ((memStep m o).1.count + 1) }, (memStep m o).2) else memStep m o
def heldShape (s : TShape) : TShape := ⟨held s.words 32 256, held s.stripes 1 16, held s.wide 1 16, held s.threads 1 4, if 4611686018427387904 ≤ s.start then 4611686018427387903 else s.start⟩
def newMem (s : TShape) : MemS := ⟨heldShape s, List.replicate (held s.words 32 256).toNat 0, List.replicate (held s.stripes 1 16).toNat zeroLock, (heldShape s).start, List.replicate (held s.threads 1 4).toNat 0, 0⟩
structure SameLen (m m' : MemS) : Prop where
 w : m'.w.length = m.w.length
 l : m'.l.length = m.l.length
 s : m'.s.length = m.s.length
 shape : m'.shape = m.shape
theorem SameLen.refl (m : MemS) : SameLen m m := ⟨rfl, rfl, rfl, rfl⟩
theorem SameLen.trans {a b c : MemS} (h : SameLen a b) (h' : SameLen b c) : SameLen a c := ⟨h'.w.trans h.w, h'.l.trans h.l, h'.s.trans h.s, h'.shape.trans h.shape⟩
def RMemR (b : Nat) (m : MemS) : Asn := exA fun vw => exA fun vl => exA fun vs => star (pureA (Cells vw [vw] ∧ Cells vl [vl] ∧ Cells vs [vs]))
 (star (star (star (own b [i64 m.shape.words, i64 m.shape.stripes, i64 m.shape.wide, i64 m.shape.threads, u64 m.shape.start, vw, vl, u64 m.n, vs, i64 m.count]) (sl wordE vw m.w)) (sl tLockE vl m.l)) (sl wordE vs m.s))
section
variable {w0 : Base} {L M : List Asn} {K : KV} {F : World → Prop} {C : Asn → List Asn} {b : Nat} {m : MemS} {o : TOp}
end
end Go.Proofs.YtoealglbimbbmaaGreatDoor.S
namespace Go.Proofs.YtoealglbimbbmaaGreatDoor.S
open Go Go.Proofs
set_option linter.unusedVariables false
set_option linter.unusedSimpArgs false
def ReadsR (b : Nat) (s : Int × List TSeen) : Asn := exA fun v => star (pureA (Cells v [v])) (star (own b [i64 s.1, v]) (sl tSeenE v s.2))
def seenAt (xs : List TSeen) (k : Int) : Option Int := (xs.find? fun x => decide (x.stripe = k)).map (·.version)
def addErr (m : Int) (xs : List TSeen) (x : TSeen) : Int :=
 if x.stripe < 0 ∨ 16 ≤ x.stripe ∨ 4611686018427387904 ≤ x.version then 1 else
 match seenAt xs x.stripe with
 | some v => if v = x.version then 0 else 14
 | none => if (xs.length : Int) = m then 5 else 0
def addSeen (m : Int) (xs : List TSeen) (x : TSeen) : List TSeen :=
 if x.stripe < 0 ∨ 16 ≤ x.stripe ∨ 4611686018427387904 ≤ x.version then xs else
 match seenAt xs x.stripe with
 | some _ => xs
 | none => if (xs.length : Int) = m then xs else xs ++ [x]
def standOne (locks : List TLock) (x : TSeen) : Bool := match locks[x.stripe.toNat]? with
 | some l => !l.held && decide (l.version = x.version)
 | none => false
def stands (xs : List TSeen) (locks : List TLock) : Bool := xs.all (standOne locks)
section
variable {w0 : Base} {L M : List Asn} {K : KV} {F : World → Prop} {C : Asn → List Asn} {b : Nat} {m : Int} {xs : List TSeen}
theorem ReadsR_open : G w0 (ob ReadsR b (m, xs) :: M) F = ∀ v, Cells v [v] → G w0 (own b [i64 m, v] :: sl tSeenE v xs :: M) F := by
 rw [ob_eq, ReadsR]
 simp only [G_ex, G_star, G_pure]
theorem readsNew_core {n : Int} : (if (if (16 : Int) < n then (16 : Int) else n) > 1 then (if (16 : Int) < n then (16 : Int) else n) else 1) = held n 1 16 := by
 unfold held; split <;> split <;> (try split) <;> (try split) <;> omega
theorem s_reads_New {n : Int} (hK : ∀ b, G w0 (ob ReadsR b (held n 1 16, []) :: L) (K (ptr b 0))) : G w0 L (CP Tryz.prog Fn.reads_New [i64 n] K) := by
 refine C_reads_New ?_
 unfold S_reads_New
 refine gr ?_
 rw [readsNew_core]
 refine G.nilsl tSeenE ?_
 refine G.box fun b => ?_
 have := hK b
 rw [ReadsR_open] at this
 exact this _ cells_slice
theorem s_reads_Reads_All [i : SelOb L ReadsR b (m, xs) C] (hl : xs.length ≤ 1000000) (hK : ∀ u, Cells u [u] → G w0 (sl tSeenE u xs :: L) (K u)) : G w0 L (CP Tryz.prog Fn.reads_Reads_All [ptr b 0] K) := by
 refine i.roN (fun M hK => ?_) hK
 rw [ReadsR_open]
 intro v hv
 refine C_reads_Reads_All ?_
 unfold S_reads_Reads_All
 refine gr ?_
 refine s_slices_Clone_api_Seen_api_Seen hl fun u hu => ?_
 have := hK u hu
 rw [G_swap, ReadsR_open] at this
 exact G.sub (this v hv)
theorem seenAt_cons (x : TSeen) (xs : List TSeen) (k : Int) : seenAt (x :: xs) k = if x.stripe = k then some x.version else seenAt xs k := by
 unfold seenAt
 by_cases h : x.stripe = k <;> simp [List.find?_cons, h]
def gotV (o : Option Int) : Value := .tuple #[u64 (o.getD 0), .bool o.isSome]
theorem s_reads_Reads_Get {k : Int} [i : SelOb L ReadsR b (m, xs) C] (hl : xs.length ≤ 1000000) (hK : G w0 L (K (.tuple #[u64 ((seenAt xs k).getD 0), .bool (seenAt xs k).isSome]))) : G w0 L (CP Tryz.prog Fn.reads_Reads_Get [ptr b 0, i64 k] K) := by
 refine i.ro (fun M hK => ?_) hK
 rw [ReadsR_open] at *
 intro v hv
 refine C_reads_Reads_Get ?_
 unfold S_reads_Reads_Get
 refine gr ?_
 refine G.loopc1 (fun j : Nat => i64 j) (fun j => j ≤ xs.length ∧ seenAt xs k = seenAt (xs.drop j) k) (fun j => xs.length - j) 0 rfl ⟨by omega, by simp⟩ ?_
 rintro j ⟨hj, hp⟩ J hJ
 refine gr ?_
 refine G.cond (fun h => ?_) (fun h => ?_)
 ·have hj2 : j < xs.length := by simpa using h
  have e := elem_of hj2
  rw [List.drop_eq_getElem_cons hj2, seenAt_cons] at hp
  refine gr ?_
  refine G.new fun p => ?_
  refine gr ?_
  refine G.cond (fun h => ?_) (fun h => ?_)
  ·rw [if_pos (by simpa using h)] at hp
   refine gr ?_
   have := hK v hv
   rw [hp] at this
   exact this.sub
  ·rw [if_neg (by simpa using h)] at hp
   rw [wsucc (by omega)]
   exact (hJ (j + 1) ⟨hj2, hp⟩ (by omega)).sub
 ·have : xs.drop j = [] := List.drop_eq_nil_of_le (by simpa using h)
  rw [this] at hp
  have := hK v hv
  rw [hp] at this
  exact this
theorem s_reads_Reads_Add {x : TSeen} [i : SelOb L ReadsR b (m, xs) C] (hl : xs.length ≤ 1000) (hK : G w0 (C (ob ReadsR b (m, addSeen m xs x))) (K (i64 (addErr m xs x)))) :
  G w0 L (CP Tryz.prog Fn.reads_Reads_Add [ptr b 0, .agg #[i64 x.stripe, u64 x.version]] K) := by
 refine i.use (fun M hK => ?_) hK
 refine C_reads_Reads_Add ?_
 unfold S_reads_Reads_Add
 try simp (maxSteps := 2000000) only [fuse_and, fuse_or, fuse_step, fuse_pair, fuse_in, andP_true]
 refine G.box fun p => ?_
 refine gr ?_
 refine G.any (decide (16 ≤ x.stripe)) (fun _ K hK => by refine gr ?_; exact hK) ?_
 refine G.any (decide (4611686018427387904 ≤ x.version)) (fun _ K hK => by refine gr ?_; exact hK) ?_
 unfold addErr addSeen at hK
 refine G.cond (fun h => ?_) (fun h => ?_)
 ·have h : x.stripe < 0 ∨ 16 ≤ x.stripe ∨ 4611686018427387904 ≤ x.version := by simpa [or_assoc] using h
  rw [if_pos h, if_pos h] at hK
  exact hK.sub
 ·have h : ¬ (x.stripe < 0 ∨ 16 ≤ x.stripe ∨ 4611686018427387904 ≤ x.version) := by simp at h; omega
  rw [if_neg h, if_neg h] at hK
  refine gr ?_
  refine s_reads_Reads_Get (xs := xs) (by omega) ?_
  cases hs : seenAt xs x.stripe with
  | some v =>
   simp only [hs] at hK
   try simp (maxSteps := 2000000) only [↓RG, RP, RB, BEq.rfl, Int.reduceEq, Int.reduceLT, Int.reduceLE, Nat.reduceEqDiff, Option.getD_some, Option.isSome_some]
   refine G.cond (fun h => ?_) (fun h => ?_)
   ·rw [if_neg (by simpa using h)] at hK
    exact hK.sub
   ·rw [if_pos (by simpa using h)] at hK
    exact hK.sub
  | none =>
   simp only [hs] at hK
   try simp (maxSteps := 2000000) only [↓RG, RP, RB, BEq.rfl, Int.reduceEq, Int.reduceLT, Int.reduceLE, Nat.reduceEqDiff, Option.isSome_none]
   refine G.drew ?_
   rw [G_swap, ReadsR_open]
   intro v hv
   refine gr ?_
   refine G.cond (fun h => ?_) (fun h => ?_)
   ·have h : (xs.length : Int) = m := by simpa using h
    rw [if_pos h, if_pos h, ReadsR_open] at hK
    exact (hK v hv).sub
   ·have h : ¬ (xs.length : Int) = m := by simpa using h
    rw [if_neg h, if_neg h, ReadsR_open] at hK
    refine G.drew ?_
    refine gr ?_
    refine G.build tSeenE [x] rfl (by decide) rfl fun y hy => ?_
    refine gr ?_
    refine G.append (xs := xs) (ys := [x]) (by simp; omega) (by simp [maxLen]; omega) fun u hu => ?_
    refine gr ?_
    exact (hK u hu).sub
end
end Go.Proofs.YtoealglbimbbmaaGreatDoor.S
