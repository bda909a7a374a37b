import Derived.Test.YtoealglbimbbmaaGreatDoorSl
import Derived.Test.YtoealglbimbbmaaGreatDoorNest
namespace Go.Proofs.YtoealglbimbbmaaGreatDoor.S
open Go Go.Proofs
set_option linter.unusedVariables false
set_option linter.unusedSimpArgs false
abbrev wordE : Enc Int := ⟨1, fun n => [u64 n], fun | [.int .u64 n] => some n | _ => none, by decide, fun _ => rfl, by simp [one], fun cs a h => by split at h <;> simp_all⟩
instance {n : Int} : EncIs wordE n [u64 n] := ⟨rfl⟩
instance {n : Int} : DecIs wordE [u64 n] n := ⟨rfl⟩
abbrev intE : Enc Int := ⟨1, fun n => [i64 n], fun | [.int .i64 n] => some n | _ => none, by decide, fun _ => rfl, by simp [one], fun cs a h => by split at h <;> simp_all⟩
instance {n : Int} : EncIs intE n [i64 n] := ⟨rfl⟩
instance {n : Int} : DecIs intE [i64 n] n := ⟨rfl⟩
abbrev byteE : Enc Int := ⟨1, fun n => [.int .u8 n], fun | [.int .u8 n] => some n | _ => none, by decide, fun _ => rfl, by simp [one], fun cs a h => by split at h <;> simp_all⟩
instance {n : Int} : EncIs byteE n [.int .u8 n] := ⟨rfl⟩
instance {n : Int} : DecIs byteE [.int .u8 n] n := ⟨rfl⟩
abbrev boolE : Enc Bool := ⟨1, fun n => [.bool n], fun | [.bool n] => some n | _ => none, by decide, fun _ => rfl, by simp [one], fun cs a h => by split at h <;> simp_all⟩
instance {n : Bool} : EncIs boolE n [.bool n] := ⟨rfl⟩
instance {n : Bool} : DecIs boolE [.bool n] n := ⟨rfl⟩
abbrev ptrE : Enc Nat := ⟨1, fun b => [ptr b 0], fun | [.pointer (some ⟨b, 0, none⟩)] => some b | _ => none, by decide, fun _ => rfl, by simp [one], fun cs a h => by split at h <;> simp_all⟩
instance {b : Nat} : EncIs ptrE b [ptr b 0] := ⟨rfl⟩
instance {b : Nat} : DecIs ptrE [ptr b 0] b := ⟨rfl⟩
theorem byteE_of {cs : List Value} (h : good [.i .u8] cs) : ∃ a : Int, byteE.enc a = cs := by
 obtain ⟨x, l, e, _, g⟩ := good_i h
 have := good_nil g
 exact ⟨x, by subst this; subst e; rfl⟩
structure SlV where
 a : Option Addr
 n : Nat
 c : Nat
abbrev SlV.v (s : SlV) : Value := .slice s.a s.n s.c
theorem arg_of_rowsG {α : Type} (E : Enc α) {Gd : List Value → Prop} (Q : α → Prop) (hE : ∀ cs, Gd cs → ∃ a, E.enc a = cs ∧ Q a) {w : World} {v : Value} {n : Nat} (h : RowsG E.sz Gd w v n) : ∃ xs : List α, Arg (Base.of w) v E xs ∧ (∀ x ∈ xs, Q x) ∧ xs.length = n := by
 obtain ⟨oa, cap, rfl, h2, h3⟩ := h
 have : ∀ m, m ≤ n → ∃ xs : List α, xs.length = m ∧ (∀ x ∈ xs, Q x) ∧ ∀ i x, xs[i]? = some x → ∃ e o cs, oa = some ⟨e, o, none⟩ ∧ mem w e = some cs ∧ o + (i + 1) * E.sz ≤ cs.length ∧ (cs.drop (o + i * E.sz)).take E.sz = E.enc x := by
  intro m
  induction m with
  | zero => exact fun _ => ⟨[], rfl, by simp, by simp⟩
  | succ m ih =>
   intro hm
   obtain ⟨xs, hl, hq, hx⟩ := ih (by omega)
   obtain ⟨e, o, cs, g1, g3, g4, g5⟩ := h3 m (by omega)
   obtain ⟨a, ha, hqa⟩ := hE _ g5
   refine ⟨xs ++ [a], by simp [hl], fun x hx => ?_, fun i x hi => ?_⟩
   ·rcases List.mem_append.1 hx with h | h
    ·exact hq x h
    ·rw [List.mem_singleton.1 h]; exact hqa
   rcases Nat.lt_or_ge i xs.length with hlt | hge
   ·rw [List.getElem?_append_left hlt] at hi
    exact hx i x hi
   ·rw [List.getElem?_append_right hge] at hi
    have : i = m := by
     rcases Nat.lt_or_ge (i - xs.length) 1 with h1 | h1
     ·omega
     ·rw [List.getElem?_eq_none (by simpa using h1)] at hi; cases hi
    subst this
    rw [hl, Nat.sub_self] at hi
    cases hi
    exact ⟨e, o, cs, g1, g3, g4, ha.symm⟩
 obtain ⟨xs, hl, hq, hx⟩ := this n (Nat.le_refl n)
 refine ⟨xs, ⟨oa, cap, by rw [hl], fun h => ⟨?_, (h2 h).2⟩, hx⟩, hq, hl⟩
 exact List.eq_nil_of_length_eq_zero (by rw [hl]; exact (h2 h).1)
structure TLock where
 version : Int
 held : Bool
 owner : Int
 deriving DecidableEq
abbrev TLock.cells (a : TLock) : List Value := [u64 a.version, .bool a.held, i64 a.owner]
abbrev TLockK : List CK := [.i .u64, .b, .i .i64]
abbrev tLockE : Enc TLock := ⟨3, TLock.cells, fun | [.int .u64 x0, .bool x1, .int .i64 x2] => some ⟨x0, x1, x2⟩ | _ => none, by decide, fun _ => rfl, by simp [one], fun cs a h => by split at h <;> cases h; rfl⟩
instance {a : TLock} : EncIs tLockE a [u64 a.version, .bool a.held, i64 a.owner] := ⟨rfl⟩
instance {x0 : Int} {x1 : Bool} {x2 : Int} : DecIs tLockE [u64 x0, .bool x1, i64 x2] ⟨x0, x1, x2⟩ := ⟨rfl⟩
theorem TLock.eqb (a b : TLock) : (decide (a.version = b.version) && ((a.held == b.held) && decide (a.owner = b.owner))) = decide (a = b) := by
 obtain ⟨x0, x1, x2⟩ := a
 obtain ⟨y0, y1, y2⟩ := b
 rw [Bool.eq_iff_iff]
 simp [and_assoc]
structure TSeen where
 stripe : Int
 version : Int
 deriving DecidableEq
abbrev TSeen.cells (a : TSeen) : List Value := [i64 a.stripe, u64 a.version]
abbrev TSeenK : List CK := [.i .i64, .i .u64]
abbrev tSeenE : Enc TSeen := ⟨2, TSeen.cells, fun | [.int .i64 x0, .int .u64 x1] => some ⟨x0, x1⟩ | _ => none, by decide, fun _ => rfl, by simp [one], fun cs a h => by split at h <;> cases h; rfl⟩
instance {a : TSeen} : EncIs tSeenE a [i64 a.stripe, u64 a.version] := ⟨rfl⟩
instance {x0 : Int} {x1 : Int} : DecIs tSeenE [i64 x0, u64 x1] ⟨x0, x1⟩ := ⟨rfl⟩
theorem TSeen.eqb (a b : TSeen) : (decide (a.stripe = b.stripe) && decide (a.version = b.version)) = decide (a = b) := by
 obtain ⟨x0, x1⟩ := a
 obtain ⟨y0, y1⟩ := b
 rw [Bool.eq_iff_iff]
 simp [and_assoc]
structure TCell where
 place : Int
 word : Int
 deriving DecidableEq
abbrev TCell.cells (a : TCell) : List Value := [i64 a.place, u64 a.word]
abbrev TCellK : List CK := [.i .i64, .i .u64]
abbrev tCellE : Enc TCell := ⟨2, TCell.cells, fun | [.int .i64 x0, .int .u64 x1] => some ⟨x0, x1⟩ | _ => none, by decide, fun _ => rfl, by simp [one], fun cs a h => by split at h <;> cases h; rfl⟩
instance {a : TCell} : EncIs tCellE a [i64 a.place, u64 a.word] := ⟨rfl⟩
instance {x0 : Int} {x1 : Int} : DecIs tCellE [i64 x0, u64 x1] ⟨x0, x1⟩ := ⟨rfl⟩
theorem TCell.eqb (a b : TCell) : (decide (a.place = b.place) && decide (a.word = b.word)) = decide (a = b) := by
 obtain ⟨x0, x1⟩ := a
 obtain ⟨y0, y1⟩ := b
 rw [Bool.eq_iff_iff]
 simp [and_assoc]
structure TRest where
 place : Int
 stamp : Int
 deriving DecidableEq
abbrev TRest.cells (a : TRest) : List Value := [i64 a.place, u64 a.stamp]
abbrev TRestK : List CK := [.i .i64, .i .u64]
abbrev tRestE : Enc TRest := ⟨2, TRest.cells, fun | [.int .i64 x0, .int .u64 x1] => some ⟨x0, x1⟩ | _ => none, by decide, fun _ => rfl, by simp [one], fun cs a h => by split at h <;> cases h; rfl⟩
instance {a : TRest} : EncIs tRestE a [i64 a.place, u64 a.stamp] := ⟨rfl⟩
instance {x0 : Int} {x1 : Int} : DecIs tRestE [i64 x0, u64 x1] ⟨x0, x1⟩ := ⟨rfl⟩
theorem TRest.eqb (a b : TRest) : (decide (a.place = b.place) && decide (a.stamp = b.stamp)) = decide (a = b) := by
 obtain ⟨x0, x1⟩ := a
 obtain ⟨y0, y1⟩ := b
 rw [Bool.eq_iff_iff]
 simp [and_assoc]
structure TPair where
 key : Int
 val : Int
 deriving DecidableEq
abbrev TPair.cells (a : TPair) : List Value := [u64 a.key, u64 a.val]
abbrev TPairK : List CK := [.i .u64, .i .u64]
abbrev tPairE : Enc TPair := ⟨2, TPair.cells, fun | [.int .u64 x0, .int .u64 x1] => some ⟨x0, x1⟩ | _ => none, by decide, fun _ => rfl, by simp [one], fun cs a h => by split at h <;> cases h; rfl⟩
instance {a : TPair} : EncIs tPairE a [u64 a.key, u64 a.val] := ⟨rfl⟩
instance {x0 : Int} {x1 : Int} : DecIs tPairE [u64 x0, u64 x1] ⟨x0, x1⟩ := ⟨rfl⟩
theorem TPair.eqb (a b : TPair) : (decide (a.key = b.key) && decide (a.val = b.val)) = decide (a = b) := by
 obtain ⟨x0, x1⟩ := a
 obtain ⟨y0, y1⟩ := b
 rw [Bool.eq_iff_iff]
 simp [and_assoc]
structure TBlock where
 place : Int
 class_ : Int
 live : Bool
 deriving DecidableEq
abbrev TBlock.cells (a : TBlock) : List Value := [i64 a.place, i64 a.class_, .bool a.live]
abbrev TBlockK : List CK := [.i .i64, .i .i64, .b]
abbrev tBlockE : Enc TBlock := ⟨3, TBlock.cells, fun | [.int .i64 x0, .int .i64 x1, .bool x2] => some ⟨x0, x1, x2⟩ | _ => none, by decide, fun _ => rfl, by simp [one], fun cs a h => by split at h <;> cases h; rfl⟩
instance {a : TBlock} : EncIs tBlockE a [i64 a.place, i64 a.class_, .bool a.live] := ⟨rfl⟩
instance {x0 : Int} {x1 : Int} {x2 : Bool} : DecIs tBlockE [i64 x0, i64 x1, .bool x2] ⟨x0, x1, x2⟩ := ⟨rfl⟩
theorem TBlock.eqb (a b : TBlock) : (decide (a.place = b.place) && (decide (a.class_ = b.class_) && (a.live == b.live))) = decide (a = b) := by
 obtain ⟨x0, x1, x2⟩ := a
 obtain ⟨y0, y1, y2⟩ := b
 rw [Bool.eq_iff_iff]
 simp [and_assoc]
structure TOp where
 kind : Int
 place : Int
 old : Int
 word : Int
 was : TLock
 lock : TLock
 deriving DecidableEq
abbrev TOp.cells (a : TOp) : List Value := [i64 a.kind, i64 a.place, u64 a.old, u64 a.word, u64 a.was.version, .bool a.was.held, i64 a.was.owner, u64 a.lock.version, .bool a.lock.held, i64 a.lock.owner]
abbrev TOpK : List CK := [.i .i64, .i .i64, .i .u64, .i .u64, .i .u64, .b, .i .i64, .i .u64, .b, .i .i64]
abbrev tOpE : Enc TOp := ⟨10, TOp.cells, fun | [.int .i64 x0, .int .i64 x1, .int .u64 x2, .int .u64 x3, .int .u64 x4, .bool x5, .int .i64 x6, .int .u64 x7, .bool x8, .int .i64 x9] => some ⟨x0, x1, x2, x3, ⟨x4, x5, x6⟩, ⟨x7, x8, x9⟩⟩ | _ => none, by decide, fun _ => rfl, by simp [one], fun cs a h => by split at h <;> cases h; rfl⟩
instance {a : TOp} : EncIs tOpE a [i64 a.kind, i64 a.place, u64 a.old, u64 a.word, u64 a.was.version, .bool a.was.held, i64 a.was.owner, u64 a.lock.version, .bool a.lock.held, i64 a.lock.owner] := ⟨rfl⟩
instance {x0 : Int} {x1 : Int} {x2 : Int} {x3 : Int} {x4 : Int} {x5 : Bool} {x6 : Int} {x7 : Int} {x8 : Bool} {x9 : Int} : DecIs tOpE [i64 x0, i64 x1, u64 x2, u64 x3, u64 x4, .bool x5, i64 x6, u64 x7, .bool x8, i64 x9] ⟨x0, x1, x2, x3, ⟨x4, x5, x6⟩, ⟨x7, x8, x9⟩⟩ := ⟨rfl⟩
theorem TOp.eqb (a b : TOp) : (decide (a.kind = b.kind) && (decide (a.place = b.place) && (decide (a.old = b.old) && (decide (a.word = b.word) && (decide (a.was.version = b.was.version) && ((a.was.held == b.was.held) && (decide (a.was.owner = b.was.owner) && (decide (a.lock.version = b.lock.version) && ((a.lock.held == b.lock.held) && decide (a.lock.owner = b.lock.owner)))))))))) = decide (a = b) := by
 obtain ⟨x0, x1, x2, x3, ⟨x4, x5, x6⟩, ⟨x7, x8, x9⟩⟩ := a
 obtain ⟨y0, y1, y2, y3, ⟨y4, y5, y6⟩, ⟨y7, y8, y9⟩⟩ := b
 rw [Bool.eq_iff_iff]
 simp [and_assoc]
structure TAns where
 word : Int
 lock : TLock
 done : Bool
 err : Int
 deriving DecidableEq
abbrev TAns.cells (a : TAns) : List Value := [u64 a.word, u64 a.lock.version, .bool a.lock.held, i64 a.lock.owner, .bool a.done, i64 a.err]
abbrev TAnsK : List CK := [.i .u64, .i .u64, .b, .i .i64, .b, .i .i64]
abbrev tAnsE : Enc TAns := ⟨6, TAns.cells, fun | [.int .u64 x0, .int .u64 x1, .bool x2, .int .i64 x3, .bool x4, .int .i64 x5] => some ⟨x0, ⟨x1, x2, x3⟩, x4, x5⟩ | _ => none, by decide, fun _ => rfl, by simp [one], fun cs a h => by split at h <;> cases h; rfl⟩
instance {a : TAns} : EncIs tAnsE a [u64 a.word, u64 a.lock.version, .bool a.lock.held, i64 a.lock.owner, .bool a.done, i64 a.err] := ⟨rfl⟩
instance {x0 : Int} {x1 : Int} {x2 : Bool} {x3 : Int} {x4 : Bool} {x5 : Int} : DecIs tAnsE [u64 x0, u64 x1, .bool x2, i64 x3, .bool x4, i64 x5] ⟨x0, ⟨x1, x2, x3⟩, x4, x5⟩ := ⟨rfl⟩
theorem TAns.eqb (a b : TAns) : (decide (a.word = b.word) && (decide (a.lock.version = b.lock.version) && ((a.lock.held == b.lock.held) && (decide (a.lock.owner = b.lock.owner) && ((a.done == b.done) && decide (a.err = b.err)))))) = decide (a = b) := by
 obtain ⟨x0, ⟨x1, x2, x3⟩, x4, x5⟩ := a
 obtain ⟨y0, ⟨y1, y2, y3⟩, y4, y5⟩ := b
 rw [Bool.eq_iff_iff]
 simp [and_assoc]
structure TShape where
 words : Int
 stripes : Int
 wide : Int
 threads : Int
 start : Int
 deriving DecidableEq
abbrev TShape.cells (a : TShape) : List Value := [i64 a.words, i64 a.stripes, i64 a.wide, i64 a.threads, u64 a.start]
abbrev TShapeK : List CK := [.i .i64, .i .i64, .i .i64, .i .i64, .i .u64]
abbrev tShapeE : Enc TShape := ⟨5, TShape.cells, fun | [.int .i64 x0, .int .i64 x1, .int .i64 x2, .int .i64 x3, .int .u64 x4] => some ⟨x0, x1, x2, x3, x4⟩ | _ => none, by decide, fun _ => rfl, by simp [one], fun cs a h => by split at h <;> cases h; rfl⟩
instance {a : TShape} : EncIs tShapeE a [i64 a.words, i64 a.stripes, i64 a.wide, i64 a.threads, u64 a.start] := ⟨rfl⟩
instance {x0 : Int} {x1 : Int} {x2 : Int} {x3 : Int} {x4 : Int} : DecIs tShapeE [i64 x0, i64 x1, i64 x2, i64 x3, u64 x4] ⟨x0, x1, x2, x3, x4⟩ := ⟨rfl⟩
theorem TShape.eqb (a b : TShape) : (decide (a.words = b.words) && (decide (a.stripes = b.stripes) && (decide (a.wide = b.wide) && (decide (a.threads = b.threads) && decide (a.start = b.start))))) = decide (a = b) := by
 obtain ⟨x0, x1, x2, x3, x4⟩ := a
 obtain ⟨y0, y1, y2, y3, y4⟩ := b
 rw [Bool.eq_iff_iff]
 simp [and_assoc]
structure TItem where
 sort : Int
 n : Int
 deriving DecidableEq
abbrev TItem.cells (a : TItem) : List Value := [i64 a.sort, u64 a.n]
abbrev TItemK : List CK := [.i .i64, .i .u64]
abbrev tItemE : Enc TItem := ⟨2, TItem.cells, fun | [.int .i64 x0, .int .u64 x1] => some ⟨x0, x1⟩ | _ => none, by decide, fun _ => rfl, by simp [one], fun cs a h => by split at h <;> cases h; rfl⟩
instance {a : TItem} : EncIs tItemE a [i64 a.sort, u64 a.n] := ⟨rfl⟩
instance {x0 : Int} {x1 : Int} : DecIs tItemE [i64 x0, u64 x1] ⟨x0, x1⟩ := ⟨rfl⟩
theorem TItem.eqb (a b : TItem) : (decide (a.sort = b.sort) && decide (a.n = b.n)) = decide (a = b) := by
 obtain ⟨x0, x1⟩ := a
 obtain ⟨y0, y1⟩ := b
 rw [Bool.eq_iff_iff]
 simp [and_assoc]
structure AskHeap where
 store : Bool
 place : Int
 v : Int
 deriving DecidableEq
abbrev AskHeap.cells (a : AskHeap) : List Value := [.bool a.store, i64 a.place, u64 a.v]
abbrev AskHeapK : List CK := [.b, .i .i64, .i .u64]
abbrev askHeapE : Enc AskHeap := ⟨3, AskHeap.cells, fun | [.bool x0, .int .i64 x1, .int .u64 x2] => some ⟨x0, x1, x2⟩ | _ => none, by decide, fun _ => rfl, by simp [one], fun cs a h => by split at h <;> cases h; rfl⟩
instance {a : AskHeap} : EncIs askHeapE a [.bool a.store, i64 a.place, u64 a.v] := ⟨rfl⟩
instance {x0 : Bool} {x1 : Int} {x2 : Int} : DecIs askHeapE [.bool x0, i64 x1, u64 x2] ⟨x0, x1, x2⟩ := ⟨rfl⟩
theorem AskHeap.eqb (a b : AskHeap) : ((a.store == b.store) && (decide (a.place = b.place) && decide (a.v = b.v))) = decide (a = b) := by
 obtain ⟨x0, x1, x2⟩ := a
 obtain ⟨y0, y1, y2⟩ := b
 rw [Bool.eq_iff_iff]
 simp [and_assoc]
structure AskStripe where
 kind : Int
 i : Int
 was : TLock
 l : TLock
 deriving DecidableEq
abbrev AskStripe.cells (a : AskStripe) : List Value := [i64 a.kind, i64 a.i, u64 a.was.version, .bool a.was.held, i64 a.was.owner, u64 a.l.version, .bool a.l.held, i64 a.l.owner]
abbrev AskStripeK : List CK := [.i .i64, .i .i64, .i .u64, .b, .i .i64, .i .u64, .b, .i .i64]
abbrev askStripeE : Enc AskStripe := ⟨8, AskStripe.cells, fun | [.int .i64 x0, .int .i64 x1, .int .u64 x2, .bool x3, .int .i64 x4, .int .u64 x5, .bool x6, .int .i64 x7] => some ⟨x0, x1, ⟨x2, x3, x4⟩, ⟨x5, x6, x7⟩⟩ | _ => none, by decide, fun _ => rfl, by simp [one], fun cs a h => by split at h <;> cases h; rfl⟩
instance {a : AskStripe} : EncIs askStripeE a [i64 a.kind, i64 a.i, u64 a.was.version, .bool a.was.held, i64 a.was.owner, u64 a.l.version, .bool a.l.held, i64 a.l.owner] := ⟨rfl⟩
instance {x0 : Int} {x1 : Int} {x2 : Int} {x3 : Bool} {x4 : Int} {x5 : Int} {x6 : Bool} {x7 : Int} : DecIs askStripeE [i64 x0, i64 x1, u64 x2, .bool x3, i64 x4, u64 x5, .bool x6, i64 x7] ⟨x0, x1, ⟨x2, x3, x4⟩, ⟨x5, x6, x7⟩⟩ := ⟨rfl⟩
theorem AskStripe.eqb (a b : AskStripe) : (decide (a.kind = b.kind) && (decide (a.i = b.i) && (decide (a.was.version = b.was.version) && ((a.was.held == b.was.held) && (decide (a.was.owner = b.was.owner) && (decide (a.l.version = b.l.version) && ((a.l.held == b.l.held) && decide (a.l.owner = b.l.owner)))))))) = decide (a = b) := by
 obtain ⟨x0, x1, ⟨x2, x3, x4⟩, ⟨x5, x6, x7⟩⟩ := a
 obtain ⟨y0, y1, ⟨y2, y3, y4⟩, ⟨y5, y6, y7⟩⟩ := b
 rw [Bool.eq_iff_iff]
 simp [and_assoc]
structure AskLimbo where
 ripe : Bool
 stamp : Int
 blocks : SlV
 slots : SlV
abbrev AskLimbo.cells (a : AskLimbo) : List Value := [.bool a.ripe, u64 a.stamp, .slice a.blocks.a a.blocks.n a.blocks.c, .slice a.slots.a a.slots.n a.slots.c]
abbrev AskLimboK : List NK := [.p .b, .p (.i .u64), .s [.i .i64], .s [.i .u64]]
abbrev askLimboE : Enc AskLimbo := ⟨4, AskLimbo.cells, fun | [.bool x0, .int .u64 x1, .slice x2a x2n x2c, .slice x3a x3n x3c] => some ⟨x0, x1, ⟨x2a, x2n, x2c⟩, ⟨x3a, x3n, x3c⟩⟩ | _ => none, by decide, fun _ => rfl, by simp [one], fun cs a h => by split at h <;> cases h; rfl⟩
instance {a : AskLimbo} : EncIs askLimboE a [.bool a.ripe, u64 a.stamp, .slice a.blocks.a a.blocks.n a.blocks.c, .slice a.slots.a a.slots.n a.slots.c] := ⟨rfl⟩
instance {x0 : Bool} {x1 : Int} {x2a : Option Addr} {x2n x2c : Nat} {x3a : Option Addr} {x3n x3c : Nat} : DecIs askLimboE [.bool x0, u64 x1, .slice x2a x2n x2c, .slice x3a x3n x3c] ⟨x0, x1, ⟨x2a, x2n, x2c⟩, ⟨x3a, x3n, x3c⟩⟩ := ⟨rfl⟩
def AskLimbo.Q (w : Base) (a : AskLimbo) : Prop := (∃ ys, Arg w a.blocks.v intE ys) ∧ (∃ ys, Arg w a.slots.v wordE ys)
structure TFact where
 word : Int
 known : Bool
 deriving DecidableEq
abbrev TFact.cells (a : TFact) : List Value := [u64 a.word, .bool a.known]
abbrev TFactK : List CK := [.i .u64, .b]
abbrev tFactE : Enc TFact := ⟨2, TFact.cells, fun | [.int .u64 x0, .bool x1] => some ⟨x0, x1⟩ | _ => none, by decide, fun _ => rfl, by simp [one], fun cs a h => by split at h <;> cases h; rfl⟩
instance {a : TFact} : EncIs tFactE a [u64 a.word, .bool a.known] := ⟨rfl⟩
instance {x0 : Int} {x1 : Bool} : DecIs tFactE [u64 x0, .bool x1] ⟨x0, x1⟩ := ⟨rfl⟩
theorem TFact.eqb (a b : TFact) : (decide (a.word = b.word) && (a.known == b.known)) = decide (a = b) := by
 obtain ⟨x0, x1⟩ := a
 obtain ⟨y0, y1⟩ := b
 rw [Bool.eq_iff_iff]
 simp [and_assoc]
structure TLevel where
 c : SlV
 f : SlV
abbrev TLevel.cells (a : TLevel) : List Value := [.slice a.c.a a.c.n a.c.c, .slice a.f.a a.f.n a.f.c]
abbrev TLevelK : List NK := [.s TCellK, .s [.i .i64]]
abbrev tLevelE : Enc TLevel := ⟨2, TLevel.cells, fun | [.slice x0a x0n x0c, .slice x1a x1n x1c] => some ⟨⟨x0a, x0n, x0c⟩, ⟨x1a, x1n, x1c⟩⟩ | _ => none, by decide, fun _ => rfl, by simp [one], fun cs a h => by split at h <;> cases h; rfl⟩
instance {a : TLevel} : EncIs tLevelE a [.slice a.c.a a.c.n a.c.c, .slice a.f.a a.f.n a.f.c] := ⟨rfl⟩
instance {x0a : Option Addr} {x0n x0c : Nat} {x1a : Option Addr} {x1n x1c : Nat} : DecIs tLevelE [.slice x0a x0n x0c, .slice x1a x1n x1c] ⟨⟨x0a, x0n, x0c⟩, ⟨x1a, x1n, x1c⟩⟩ := ⟨rfl⟩
def TLevel.Q (w : Base) (a : TLevel) : Prop := (∃ ys, Arg w a.c.v tCellE ys) ∧ (∃ ys, Arg w a.f.v intE ys)
structure AskLevels where
 kind : Int
 place : Int
 v : Int
 cs : SlV
abbrev AskLevels.cells (a : AskLevels) : List Value := [i64 a.kind, i64 a.place, u64 a.v, .slice a.cs.a a.cs.n a.cs.c]
abbrev AskLevelsK : List NK := [.p (.i .i64), .p (.i .i64), .p (.i .u64), .s TCellK]
abbrev askLevelsE : Enc AskLevels := ⟨4, AskLevels.cells, fun | [.int .i64 x0, .int .i64 x1, .int .u64 x2, .slice x3a x3n x3c] => some ⟨x0, x1, x2, ⟨x3a, x3n, x3c⟩⟩ | _ => none, by decide, fun _ => rfl, by simp [one], fun cs a h => by split at h <;> cases h; rfl⟩
instance {a : AskLevels} : EncIs askLevelsE a [i64 a.kind, i64 a.place, u64 a.v, .slice a.cs.a a.cs.n a.cs.c] := ⟨rfl⟩
instance {x0 : Int} {x1 : Int} {x2 : Int} {x3a : Option Addr} {x3n x3c : Nat} : DecIs askLevelsE [i64 x0, i64 x1, u64 x2, .slice x3a x3n x3c] ⟨x0, x1, x2, ⟨x3a, x3n, x3c⟩⟩ := ⟨rfl⟩
def AskLevels.Q (w : Base) (a : AskLevels) : Prop := (∃ ys, Arg w a.cs.v tCellE ys)
structure AskWrites where
 take : Bool
 c : TCell
 l : SlV
abbrev AskWrites.cells (a : AskWrites) : List Value := [.bool a.take, i64 a.c.place, u64 a.c.word, .slice a.l.a a.l.n a.l.c]
abbrev AskWritesK : List NK := [.p .b, .p (.i .i64), .p (.i .u64), .s TCellK]
abbrev askWritesE : Enc AskWrites := ⟨4, AskWrites.cells, fun | [.bool x0, .int .i64 x1, .int .u64 x2, .slice x3a x3n x3c] => some ⟨x0, ⟨x1, x2⟩, ⟨x3a, x3n, x3c⟩⟩ | _ => none, by decide, fun _ => rfl, by simp [one], fun cs a h => by split at h <;> cases h; rfl⟩
instance {a : AskWrites} : EncIs askWritesE a [.bool a.take, i64 a.c.place, u64 a.c.word, .slice a.l.a a.l.n a.l.c] := ⟨rfl⟩
instance {x0 : Bool} {x1 : Int} {x2 : Int} {x3a : Option Addr} {x3n x3c : Nat} : DecIs askWritesE [.bool x0, i64 x1, u64 x2, .slice x3a x3n x3c] ⟨x0, ⟨x1, x2⟩, ⟨x3a, x3n, x3c⟩⟩ := ⟨rfl⟩
def AskWrites.Q (w : Base) (a : AskWrites) : Prop := (∃ ys, Arg w a.l.v tCellE ys)
structure TCase where
 me : Int
 spins : Int
 stamp : Int
 seen : SlV
 cs : SlV
 others : SlV
 start : Int
 stripes : Int
 wide : Int
abbrev TCase.cells (a : TCase) : List Value := [i64 a.me, i64 a.spins, i64 a.stamp, .slice a.seen.a a.seen.n a.seen.c, .slice a.cs.a a.cs.n a.cs.c, .slice a.others.a a.others.n a.others.c, u64 a.start, i64 a.stripes, i64 a.wide]
abbrev TCaseK : List NK := [.p (.i .i64), .p (.i .i64), .p (.i .i64), .s TSeenK, .s TCellK, .s TOpK, .p (.i .u64), .p (.i .i64), .p (.i .i64)]
abbrev tCaseE : Enc TCase := ⟨9, TCase.cells, fun | [.int .i64 x0, .int .i64 x1, .int .i64 x2, .slice x3a x3n x3c, .slice x4a x4n x4c, .slice x5a x5n x5c, .int .u64 x6, .int .i64 x7, .int .i64 x8] => some ⟨x0, x1, x2, ⟨x3a, x3n, x3c⟩, ⟨x4a, x4n, x4c⟩, ⟨x5a, x5n, x5c⟩, x6, x7, x8⟩ | _ => none, by decide, fun _ => rfl, by simp [one], fun cs a h => by split at h <;> cases h; rfl⟩
instance {a : TCase} : EncIs tCaseE a [i64 a.me, i64 a.spins, i64 a.stamp, .slice a.seen.a a.seen.n a.seen.c, .slice a.cs.a a.cs.n a.cs.c, .slice a.others.a a.others.n a.others.c, u64 a.start, i64 a.stripes, i64 a.wide] := ⟨rfl⟩
instance {x0 : Int} {x1 : Int} {x2 : Int} {x3a : Option Addr} {x3n x3c : Nat} {x4a : Option Addr} {x4n x4c : Nat} {x5a : Option Addr} {x5n x5c : Nat} {x6 : Int} {x7 : Int} {x8 : Int} : DecIs tCaseE [i64 x0, i64 x1, i64 x2, .slice x3a x3n x3c, .slice x4a x4n x4c, .slice x5a x5n x5c, u64 x6, i64 x7, i64 x8] ⟨x0, x1, x2, ⟨x3a, x3n, x3c⟩, ⟨x4a, x4n, x4c⟩, ⟨x5a, x5n, x5c⟩, x6, x7, x8⟩ := ⟨rfl⟩
def TCase.Q (w : Base) (a : TCase) : Prop := (∃ ys, Arg w a.seen.v tSeenE ys) ∧ (∃ ys, Arg w a.cs.v tCellE ys) ∧ (∃ ys, Arg w a.others.v tOpE ys)
structure TMove where
 mine : Bool
 again : Bool
 deriving DecidableEq
abbrev TMove.cells (a : TMove) : List Value := [.bool a.mine, .bool a.again]
abbrev TMoveK : List CK := [.b, .b]
abbrev tMoveE : Enc TMove := ⟨2, TMove.cells, fun | [.bool x0, .bool x1] => some ⟨x0, x1⟩ | _ => none, by decide, fun _ => rfl, by simp [one], fun cs a h => by split at h <;> cases h; rfl⟩
instance {a : TMove} : EncIs tMoveE a [.bool a.mine, .bool a.again] := ⟨rfl⟩
instance {x0 : Bool} {x1 : Bool} : DecIs tMoveE [.bool x0, .bool x1] ⟨x0, x1⟩ := ⟨rfl⟩
theorem TMove.eqb (a b : TMove) : ((a.mine == b.mine) && (a.again == b.again)) = decide (a = b) := by
 obtain ⟨x0, x1⟩ := a
 obtain ⟨y0, y1⟩ := b
 rw [Bool.eq_iff_iff]
 simp [and_assoc]
structure TCall where
 what : Int
 root : Int
 k : Int
 x : Int
 deriving DecidableEq
abbrev TCall.cells (a : TCall) : List Value := [i64 a.what, i64 a.root, u64 a.k, u64 a.x]
abbrev TCallK : List CK := [.i .i64, .i .i64, .i .u64, .i .u64]
abbrev tCallE : Enc TCall := ⟨4, TCall.cells, fun | [.int .i64 x0, .int .i64 x1, .int .u64 x2, .int .u64 x3] => some ⟨x0, x1, x2, x3⟩ | _ => none, by decide, fun _ => rfl, by simp [one], fun cs a h => by split at h <;> cases h; rfl⟩
instance {a : TCall} : EncIs tCallE a [i64 a.what, i64 a.root, u64 a.k, u64 a.x] := ⟨rfl⟩
instance {x0 : Int} {x1 : Int} {x2 : Int} {x3 : Int} : DecIs tCallE [i64 x0, i64 x1, u64 x2, u64 x3] ⟨x0, x1, x2, x3⟩ := ⟨rfl⟩
theorem TCall.eqb (a b : TCall) : (decide (a.what = b.what) && (decide (a.root = b.root) && (decide (a.k = b.k) && decide (a.x = b.x)))) = decide (a = b) := by
 obtain ⟨x0, x1, x2, x3⟩ := a
 obtain ⟨y0, y1, y2, y3⟩ := b
 rw [Bool.eq_iff_iff]
 simp [and_assoc]
theorem wsucc {k : Nat} (h : k < 4611686018427387904) : IntKind.wrap .i64 ((k : Int) + 1) = ((k + 1 : Nat) : Int) := by
 rw [Go.IntWalk.i64_in _ (by omega)]; rfl
theorem wi64 {n : Int} (h : -9223372036854775808 ≤ n) (h' : n ≤ 9223372036854775807) : IntKind.wrap .i64 n = n := Go.IntWalk.i64_in _ ⟨h, h'⟩
theorem wu64 {n : Int} (h : 0 ≤ n) (h' : n ≤ 18446744073709551615) : IntKind.wrap .u64 n = n := Go.IntWalk.u64_in _ ⟨h, h'⟩
def inK (k : IntKind) (n : Int) : Prop := (Lit.int k n).wf = true
theorem inK_u8 {n : Int} (h : inK .u8 n) : 0 ≤ n ∧ n ≤ 255 := by simp [inK, Lit.wf, IntKind.min, IntKind.max, IntKind.signed, IntKind.bits] at h; omega
theorem inK_u64 {n : Int} (h : inK .u64 n) : 0 ≤ n ∧ n ≤ 18446744073709551615 := by simp [inK, Lit.wf, IntKind.min, IntKind.max, IntKind.signed, IntKind.bits] at h; omega
theorem good_u8 {xs : List Int} (h : ∀ x ∈ xs, good [.i .u8] (byteE.enc x)) : ∀ x ∈ xs, 0 ≤ x ∧ x ≤ 255 := fun x hx => inK_u8 (h x hx).2.1
def held (n lo hi : Int) : Int := if n < lo then lo else if n > hi then hi else n
theorem held_le {n lo hi : Int} (h : lo ≤ hi) : lo ≤ held n lo hi ∧ held n lo hi ≤ hi := by unfold held; split <;> (try split) <;> omega
def WordsR (b : Nat) (xs : List Int) : Asn := exA fun v => star (pureA (Cells v [v])) (star (own b [v]) (sl wordE v xs))
theorem WordsR_open {w0 : Base} {M : List Asn} {F : World → Prop} {b : Nat} {xs : List Int} : G w0 (ob WordsR b xs :: M) F = ∀ v, Cells v [v] → G w0 (own b [v] :: sl wordE v xs :: M) F := by
 rw [ob_eq, WordsR]
 simp only [G_ex, G_star, G_pure]
def BoxR {α : Type} (E : Enc α) (b : Nat) (xs : List α) : Asn := exA fun v => star (pureA (Cells v [v])) (star (own b [v]) (sl E v xs))
theorem BoxR_open {α : Type} {E : Enc α} {w0 : Base} {M : List Asn} {F : World → Prop} {b : Nat} {xs : List α} : G w0 (ob (BoxR E) b xs :: M) F = ∀ v, Cells v [v] → G w0 (own b [v] :: sl E v xs :: M) F := by
 rw [ob_eq, BoxR]
 simp only [G_ex, G_star, G_pure]
class PickAll (As L : List Asn) (M : outParam (List Asn)) : Prop where
 eq : stars L = stars (As ++ M)
instance PickAll.nil {L : List Asn} : PickAll [] L L := ⟨rfl⟩
instance PickAll.cons {A : Asn} {As L M1 M : List Asn} [p : Pick L A M1] [q : PickAll As M1 M] : PickAll (A :: As) L M := ⟨by
 rw [p.eq]
 show star A (stars M1) = star A (stars (As ++ M))
 rw [q.eq]⟩
theorem G.pickAll {As L M : List Asn} {w0 : Base} {F : World → Prop} [p : PickAll As L M] (h : G w0 (As ++ M) F) : G w0 L F := by
 rw [G_of_stars p.eq]; exact h
theorem elem_of {α : Type} {xs : List α} {k : Nat} (h : k < xs.length) : Elem xs k xs[k] := ⟨List.getElem?_eq_getElem h⟩
theorem Elem.lt {α : Type} {xs : List α} {k : Nat} {x : α} (h : Elem xs k x) : k < xs.length := by
 rcases Nat.lt_or_ge k xs.length with h1 | h1
 ·exact h1
 ·have := h.eq; simp [List.getElem?_eq_none h1] at this
end Go.Proofs.YtoealglbimbbmaaGreatDoor.S
