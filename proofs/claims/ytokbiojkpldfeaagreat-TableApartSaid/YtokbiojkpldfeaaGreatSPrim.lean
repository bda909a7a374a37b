/-
  THE WORDS OF THE PLAIN FORM: for each kind of operation what it asks of its operands and of the memory, and what it hands on; and that the model's operation does just that.
-/
import Derived.Test.YtokbiojkpldfeaaGreatSMem
import Derived.Laws.Bits
import Derived.WalkKit
namespace Go.Proofs.YtokbiojkpldfeaaGreat.S
open Go

abbrev KV := Value → World → Prop

def pickW (c a b : Value) (K : KV) (w : World) : Prop := match c with | .bool t => K (if t then a else b) w | _ => False
def notW (x : Value) (K : KV) (w : World) : Prop := match x with | .bool t => K (.bool (!t)) w | _ => False
def convW (k : IntKind) (x : Value) (K : KV) (w : World) : Prop := match x with | .int _ n => K (.int k (k.wrap n)) w | _ => False

def intBin (op : BinOp) (k : IntKind) (a b : Int) : Option Value :=
  match op with
  | .add => some (.int k (k.wrap (a + b)))
  | .sub => some (.int k (k.wrap (a - b)))
  | .mul => some (.int k (k.wrap (a * b)))
  | .quo => if b = 0 then none else some (.int k (k.wrap (a.tdiv b)))
  | .rem => if b = 0 then none else some (.int k (a.tmod b))
  | .and => some (.int k (k.wrap (BitVec.ofInt k.bits a &&& BitVec.ofInt k.bits b).toNat))
  | .or => some (.int k (k.wrap (BitVec.ofInt k.bits a ||| BitVec.ofInt k.bits b).toNat))
  | .xor => some (.int k (k.wrap (BitVec.ofInt k.bits a ^^^ BitVec.ofInt k.bits b).toNat))
  | .eql => some (.bool (a == b))
  | .neq => some (.bool (a != b))
  | .lss => some (.bool (a < b))
  | .leq => some (.bool (a ≤ b))
  | .gtr => some (.bool (a > b))
  | .geq => some (.bool (a ≥ b))
  | _ => none

def onSome (o : Option Value) (K : KV) (w : World) : Prop := match o with | some v => K v w | none => False

def binIntW (op : BinOp) (x y : Value) (K : KV) (w : World) : Prop :=
  match x, y with
  | .int k a, .int k' b =>
    match op with
    | .shl => 0 ≤ b ∧ K (.int k (k.wrap (a * 2 ^ min b.toNat k.bits))) w
    | .shr => 0 ≤ b ∧ K (.int k (a.fdiv (2 ^ min b.toNat k.bits))) w
    | op => k = k' ∧ onSome (intBin op k a b) K w
  | _, _ => False

/-- == or != of a known truth -/
def eqW (op : BinOp) (t : Bool) (K : KV) (w : World) : Prop := match op with | .eql => K (.bool t) w | .neq => K (.bool (!t)) w | _ => False

def binBoolW (op : BinOp) (x y : Value) (K : KV) (w : World) : Prop := match x, y with | .bool a, .bool b => eqW op (a == b) K w | _, _ => False

def eqNilW (op : BinOp) (x y : Value) (K : KV) (w : World) : Prop :=
  match x, y with
  | .pointer none, .pointer b => eqW op b.isNone K w
  | .pointer (some _), .pointer none => eqW op false K w
  | _, _ => False

def eqNilSliceW (op : BinOp) (x y : Value) (K : KV) (w : World) : Prop :=
  match x, y with
  | .slice none _ _, .slice b _ _ => eqW op b.isNone K w
  | .slice (some _) _ _, .slice none _ _ => eqW op false K w
  | _, _ => False

/-- kinds of a plain struct's cells -/
inductive CK where
  | b
  | i (k : IntKind)
  deriving DecidableEq

def fits : List CK → List Value → Prop
  | [], [] => True
  | .b :: ks, .bool _ :: vs => fits ks vs
  | .i k :: ks, .int k' _ :: vs => k = k' ∧ fits ks vs
  | _, _ => False

def eqCells : List Value → List Value → Bool
  | [], [] => true
  | .bool a :: xs, .bool b :: ys => a == b && eqCells xs ys
  | .int _ a :: xs, .int _ b :: ys => a == b && eqCells xs ys
  | _, _ => false

def eqAggW (ks : List CK) (op : BinOp) (x y : Value) (K : KV) (w : World) : Prop :=
  match x, y with
  | .agg xs, .agg ys => fits ks xs.toList ∧ fits ks ys.toList ∧ eqW op (eqCells xs.toList ys.toList) K w
  | _, _ => False

def load1W (a : Value) (K : KV) (w : World) : Prop :=
  match a with
  | .pointer (some ⟨b, i, none⟩) => match mem w b with
    | some cs => onSome cs[i]? K w
    | none => False
  | _ => False

def loadNW (n : Nat) (a : Value) (K : KV) (w : World) : Prop :=
  match a with
  | .pointer (some ⟨b, o, none⟩) => match mem w b with
    | some cs => o + n ≤ cs.length ∧ K (.agg ((cs.drop o).take n).toArray) w
    | none => False
  | _ => False

def storeW (n : Nat) (a v : Value) (K : KV) (w : World) : Prop :=
  match a with
  | .pointer (some ⟨b, o, none⟩) => match mem w b with
    | some cs => v.cells.size = n ∧ (∀ u ∈ v.cells.toList, one u = true) ∧ opn w b = true ∧ o + n ≤ cs.length ∧ K undef (put w b (seg cs o v.cells.toList))
    | none => False
  | _ => False

def newW (cells : Array Value) (K : KV) (w : World) : Prop := ∀ T, K (.pointer (some ⟨w.heap.size, 0, none⟩)) (w.alloc (.cells cells T))

def addW (n : Nat) (x : Value) (K : KV) (w : World) : Prop := match x with | .pointer (some ⟨b, i, none⟩) => K (.pointer (some ⟨b, i + n, none⟩)) w | _ => False

def idxW (sz : Nat) (x ix : Value) (K : KV) (w : World) : Prop :=
  match x, ix with
  | .slice (some ⟨b, o, none⟩) len _, .int _ i => 0 ≤ i ∧ i < len ∧ K (.pointer (some ⟨b, o + i.toNat * sz, none⟩)) w
  | _, _ => False

def idxArrW (len sz : Nat) (x ix : Value) (K : KV) (w : World) : Prop :=
  match x, ix with
  | .pointer (some ⟨b, o, none⟩), .int _ i => 0 ≤ i ∧ i < len ∧ K (.pointer (some ⟨b, o + i.toNat * sz, none⟩)) w
  | _, _ => False

/-- part of a struct's or an array's value: 'agg': the part is one itself -/
def partW (isAgg : Bool) (off size : Nat) (x : Value) (K : KV) (w : World) : Prop :=
  match x with
  | .agg cs => if isAgg then K (.agg (cs.extract off (off + size))) w else onSome cs[off]? K w
  | _ => False

def extractW (i : Nat) (x : Value) (K : KV) (w : World) : Prop := match x with | .tuple vs => onSome vs[i]? K w | _ => False

def lenW (x : Value) (K : KV) (w : World) : Prop := match x with | .slice _ n _ => K (.int .i64 n) w | _ => False

def max2V : Value → Value → Option Value
  | .int k x, .int _ y => some (.int k (if y > x then y else x))
  | _, _ => none
def min2V : Value → Value → Option Value
  | .int k x, .int _ y => some (.int k (if y < x then y else x))
  | _, _ => none
def foldV (f : Value → Value → Option Value) : Value → List Value → Option Value
  | x, [] => some x
  | x, y :: l => match f x y with | some z => foldV f z l | none => none

def maxW (x : Value) (l : List Value) (K : KV) (w : World) : Prop := onSome (foldV max2V x l) K w
def minW (x : Value) (l : List Value) (K : KV) (w : World) : Prop := onSome (foldV min2V x l) K w

def nilW (x : Value) (K : KV) (w : World) : Prop := match x with | .pointer (some _) => K x w | .func (.func _) _ _ => K x w | _ => False

/-- a struct's value out of its parts: place, size, value -/
def buildL (zero : List Value) : List (Nat × Nat × Value) → Option (List Value)
  | [] => some zero
  | (o, n, v) :: r => if v.cells.size = n ∧ o + n ≤ zero.length then buildL (seg zero o v.cells.toList) r else none

def buildW (zero : List Value) (parts : List (Nat × Nat × Value)) (K : KV) (w : World) : Prop := match buildL zero parts with | some cs => K (.agg cs.toArray) w | none => False

/-- so many elements, each so -/
def repl (n : Nat) (zero : List Value) : List Value := (List.replicate n zero).flatten

def buildSliceW (zero : List Value) (len : Nat) (parts : List (Nat × Nat × Value)) (K : KV) (w : World) : Prop :=
  len * zero.length ≤ 16777216 ∧
  match buildL (repl len zero) parts with
  | some cs => ∀ T, K (.slice (some ⟨w.heap.size, 0, none⟩) len len) (w.alloc (.cells cs.toArray T))
  | none => False

def makeSliceW (bytes : Nat) (zero : List Value) (len cap : Value) (K : KV) (w : World) : Prop :=
  match len, cap with
  | .int _ l, .int _ c => 0 ≤ l ∧ l ≤ c ∧ c ≤ maxLen ∧ bytes * c ≤ 140737488355328 ∧ ∀ T, K (.slice (some ⟨w.heap.size, 0, none⟩) l.toNat c.toNat) (w.alloc (.cells (repl c.toNat zero).toArray T))
  | _, _ => False

def bound (o : Option Value) (d : Nat) : Option Int := match o with | none => some d | some (.int _ n) => some n | some _ => none

def sliceW (sz : Nat) (x : Value) (lo hi : Option Value) (K : KV) (w : World) : Prop :=
  match x with
  | .slice a len cap => match bound lo 0, bound hi len with
    | some l, some h => 0 ≤ l ∧ l ≤ h ∧ h ≤ cap ∧ K (.slice (if cap = l.toNat then a else a.map (·.add (l.toNat * sz))) (h.toNat - l.toNat) (cap - l.toNat)) w
    | _, _ => False
  | _ => False

/-- the cells that are appended -/
def srcCells (sz : Nat) (x : Value) (w : World) : Option (Nat × List Value) :=
  match x with
  | .slice none n _ => if n = 0 then some (0, []) else none
  | .slice (some a) n _ => if n = 0 then some (0, []) else match a with
    | ⟨b, o, none⟩ => match mem w b with
      | some cs => if o + n * sz ≤ cs.length then some (n, (cs.drop o).take (n * sz)) else none
      | none => none
    | _ => none
  | _ => none

def appendW (sz bytes : Nat) (s x : Value) (K : KV) (w : World) : Prop :=
  match s, srcCells sz x w with
  | .slice a len cap, some (n, new) =>
    match a with
    | none => len = 0 ∧ cap = 0 ∧ n * bytes ≤ 140737488355328 ∧ n ≤ maxLen ∧
      (n = 0 → K (.slice none 0 0) w) ∧
      (0 < n → ∀ (c : Nat) (rest : List Value) T, n ≤ c → c ≤ maxLen → rest.length = (c - n) * sz → K (.slice (some ⟨w.heap.size, 0, none⟩) n c) (w.drew.alloc (.cells (new ++ rest).toArray T)))
    | some ⟨b, o, none⟩ => match mem w b with
      | some cs => o + cap * sz ≤ cs.length ∧ len ≤ cap ∧ (len + n) * bytes ≤ 140737488355328 ∧ len + n ≤ maxLen ∧
        (len + n ≤ cap → (n = 0 ∨ opn w b = true) ∧ (∀ u ∈ new, one u = true) ∧ K (.slice (some ⟨b, o, none⟩) (len + n) cap) (put w b (seg cs (o + len * sz) new))) ∧
        (cap < len + n → ∀ (c : Nat) (rest : List Value) T, len + n ≤ c → c ≤ maxLen → rest.length = (c - (len + n)) * sz →
          K (.slice (some ⟨w.heap.size, 0, none⟩) (len + n) c) (w.drew.alloc (.cells ((cs.drop o).take (len * sz) ++ new ++ rest).toArray T)))
      | none => False
    | _ => False
  | _, _ => False

/-! all ways behind a piece of code meet in one -/
def joinW0 (J : World → Prop) (B : (World → Prop) → World → Prop) : World → Prop := B J
def joinW1 (J : Value → World → Prop) (B : (Value → World → Prop) → World → Prop) : World → Prop := B J
def joinW2 (J : Value → Value → World → Prop) (B : (Value → Value → World → Prop) → World → Prop) : World → Prop := B J
def joinW3 (J : Value → Value → Value → World → Prop) (B : (Value → Value → Value → World → Prop) → World → Prop) : World → Prop := B J

end Go.Proofs.YtokbiojkpldfeaaGreat.S
