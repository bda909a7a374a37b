/-
  THE MEMORY AS LISTS: what a block holds ('mem'), whether it may be written ('opn'), a block's new contents ('put'); what the model's loads, stores and new blocks come to in these words.
-/
import Derived.Calls
import Derived.Tactics
import Derived.Orders
import Derived.Below
import Derived.Laws.Bits
import Derived.WalkKit
namespace Go.Proofs.YtoealglbimbbmaaGreatDoor.S
open Go

/-! lists with numerals as places, by structural recursion (the kernel reckons with them) -/
abbrev nth {α : Type} : List α → Nat → Option α
  | [], _ => none
  | a :: _, 0 => some a
  | _ :: l, n + 1 => nth l n

abbrev upd {α : Type} : List α → Nat → α → List α
  | [], _, _ => []
  | _ :: l, 0, x => x :: l
  | a :: l, n + 1, x => a :: upd l n x

theorem nth_eq {α : Type} : ∀ (l : List α) (n : Nat), nth l n = l[n]?
  | [], n => by simp [nth]
  | a :: l, 0 => by simp [nth]
  | a :: l, n + 1 => by simp [nth, nth_eq l n]

theorem upd_eq {α : Type} : ∀ (l : List α) (n : Nat) (x : α), upd l n x = l.set n x
  | [], n, x => by simp [upd]
  | a :: l, 0, x => by simp [upd]
  | a :: l, n + 1, x => by simp [upd, upd_eq l n x]

/-- the cells from o on are these -/
def seg {α : Type} : List α → Nat → List α → List α
  | cs, _, [] => cs
  | cs, o, v :: vs => seg (cs.set o v) (o + 1) vs

@[simp] theorem length_seg {α : Type} : ∀ (vs cs : List α) (o : Nat), (seg cs o vs).length = cs.length
  | [], cs, o => rfl
  | v :: vs, cs, o => by simp [seg, length_seg vs]

theorem seg_eq {α : Type} : ∀ (vs cs : List α) (o : Nat), o + vs.length ≤ cs.length → seg cs o vs = cs.take o ++ vs ++ cs.drop (o + vs.length)
  | [], cs, o, _ => by simp [seg]
  | v :: vs, cs, o, h => by
    simp only [List.length_cons] at h
    have h1 : (cs.set o v).take (o + 1) = cs.take o ++ [v] := by
      rw [List.take_add_one, List.take_set_of_le (Nat.le_refl o)]
      simp [show o < cs.length by omega]
    have h2 : (cs.set o v).drop (o + 1 + vs.length) = cs.drop (o + 1 + vs.length) := List.drop_set_of_lt (by omega)
    rw [seg, seg_eq vs (cs.set o v) (o + 1) (by simp; omega), h1, h2, List.length_cons, show o + (vs.length + 1) = o + 1 + vs.length by omega]
    simp

/-- one cell's value -/
def one : Value → Bool
  | .agg _ | .tuple _ => false
  | _ => true

/-- what block b holds -/
def mem (w : World) (b : Nat) : Option (List Value) :=
  match w.heap[b]? with
  | some (.cells c _ _) => some c.toList
  | _ => none

/-- block b may be written -/
def opn (w : World) (b : Nat) : Bool :=
  match w.heap[b]? with
  | some (.cells _ _ z) => z.1 == 0 && z.2 == 0
  | _ => false

/-- block b's cells are these -/
def put (w : World) (b : Nat) (cs : List Value) : World :=
  { w with heap := w.heap.modify b fun
      | .cells _ T z => .cells cs.toArray T z
      | o => o }

theorem cell_eq (w : World) (b i : Nat) : w.cell? ⟨b, i, none⟩ = (mem w b).bind (·[i]?) := by
  unfold World.cell? mem
  split <;> simp_all

theorem cell_mem {w : World} {b i : Nat} {cs : List Value} (h : mem w b = some cs) : w.cell? ⟨b, i, none⟩ = cs[i]? := by
  rw [cell_eq, h]; rfl

theorem frozen_opn {w : World} {b i : Nat} (h : opn w b = true) : w.frozen? ⟨b, i, none⟩ = false := by
  unfold opn at h
  unfold World.frozen?
  split <;> rename_i hb <;> simp [hb] at h ⊢
  intro _; omega

theorem mem_lt {w : World} {b : Nat} {cs : List Value} (h : mem w b = some cs) : b < w.heap.size := by
  unfold mem at h
  rcases Nat.lt_or_ge b w.heap.size with hb | hb
  · exact hb
  · simp [Array.getElem?_eq_none hb] at h

theorem setCell_put {w : World} {b i : Nat} {cs : List Value} (v : Value) (h : mem w b = some cs) : w.setCell ⟨b, i, none⟩ v = put w b (cs.set i v) := by
  unfold World.setCell put
  congr 1
  apply Array.ext_getElem?
  intro j
  simp only [Array.getElem?_modify]
  split
  · rename_i hj; subst hj
    unfold mem at h
    cases hb : w.heap[b]? with
    | none => simp
    | some o =>
      rw [hb] at h
      cases o with
      | cells c T z => simp at h; subst h; simp; apply Array.toList_inj.1; simp
      | _ => simp at h
  · rfl

@[simp] theorem size_put (w : World) (b : Nat) (cs : List Value) : (put w b cs).heap.size = w.heap.size := by simp [put]

theorem mem_put (w : World) (b b' : Nat) (cs : List Value) : mem (put w b cs) b' = if b' = b then (mem w b).map (fun _ => cs) else mem w b' := by
  unfold mem put
  simp only [Array.getElem?_modify]
  by_cases h : b = b'
  · subst h
    simp only [if_true]
    cases w.heap[b]? with
    | none => simp
    | some o => cases o <;> simp
  · rw [if_neg h, if_neg (fun e => h e.symm)]

theorem opn_put (w : World) (b b' : Nat) (cs : List Value) : opn (put w b cs) b' = opn w b' := by
  unfold opn put
  simp only [Array.getElem?_modify]
  by_cases h : b = b'
  · subst h
    cases w.heap[b]? with
    | none => simp
    | some o => cases o <;> simp
  · rw [if_neg h]

theorem put_same {w : World} {b : Nat} {cs : List Value} (h : mem w b = some cs) : put w b cs = w := by
  cases w; unfold put mem at *
  simp only [World.mk.injEq, and_true] at *
  apply Array.ext_getElem?
  intro j
  simp only [Array.getElem?_modify]
  split
  · rename_i hj; subst hj
    rename_i heap _ _ _ _
    cases hb : heap[b]? with
    | none => rfl
    | some o =>
      simp only [hb] at h
      cases o <;> simp at h ⊢
      subst h; simp
  · rfl

theorem put_put (w : World) (b : Nat) (cs ds : List Value) : put (put w b cs) b ds = put w b ds := by
  unfold put
  congr 1
  apply Array.ext_getElem?
  intro j
  simp only [Array.getElem?_modify]
  split
  · cases w.heap[j]? with
    | none => rfl
    | some o => cases o <;> rfl
  · rfl

theorem mem_alloc (w : World) (c : Array Value) (T : TypeId) (z : Nat × Nat) (b : Nat) : mem (w.alloc (.cells c T z)) b = if b = w.heap.size then some c.toList else mem w b := by
  unfold mem
  show (match (w.heap.push _)[b]? with | some (.cells c _ _) => some c.toList | _ => none) = _
  rw [Array.getElem?_push]
  by_cases hb : b = w.heap.size
  · rw [if_pos hb, if_pos hb]
  · rw [if_neg hb, if_neg hb]

theorem opn_alloc (w : World) (c : Array Value) (T : TypeId) (b : Nat) : opn (w.alloc (.cells c T)) b = if b = w.heap.size then true else opn w b := by
  unfold opn
  show (match (w.heap.push _)[b]? with | some (.cells _ _ z) => z.1 == 0 && z.2 == 0 | _ => false) = _
  rw [Array.getElem?_push]
  by_cases hb : b = w.heap.size
  · rw [if_pos hb, if_pos hb]; rfl
  · rw [if_neg hb, if_neg hb]

@[simp] theorem size_alloc (w : World) (o : Obj) : (w.alloc o).heap.size = w.heap.size + 1 := by
  show (w.heap.push o).size = _
  simp

@[simp] theorem mem_drew (w : World) (b : Nat) : mem w.drew b = mem w b := rfl
@[simp] theorem opn_drew (w : World) (b : Nat) : opn w.drew b = opn w b := rfl
@[simp] theorem size_drew (w : World) : w.drew.heap.size = w.heap.size := rfl

/-! ### the model's runs in these words -/
section
variable {P : Program}

theorem run_load1 {w : World} {b i : Nat} {cs : List Value} {v : Value} (h : mem w b = some cs) (hi : cs[i]? = some v) : (load ⟨b, i, none⟩).run P w = .ok v w := by
  simp [run_load, cell_mem h, hi]

theorem add_none (b i n : Nat) : (⟨b, i, none⟩ : Addr).add n = ⟨b, i + n, none⟩ := by
  unfold Addr.add
  split <;> simp_all

theorem run_loadCellsFrom {w : World} {b : Nat} {cs : List Value} (h : mem w b = some cs) : ∀ (n o i : Nat) (acc : Array Value), o + i + n ≤ cs.length →
    (loadCellsFrom ⟨b, o, none⟩ i n acc).run P w = .ok (acc ++ ((cs.drop (o + i)).take n).toArray) w
  | 0, o, i, acc, _ => by simp [loadCellsFrom]
  | n + 1, o, i, acc, hn => by
    have hi : cs[o + i]? = some cs[o + i] := List.getElem?_eq_getElem (by omega)
    simp only [loadCellsFrom, Sem.run_bind, add_none, run_load1 h hi, Result.andThen_ok]
    rw [run_loadCellsFrom h n o (i + 1) _ (by omega)]
    congr 1
    rw [show o + (i + 1) = o + i + 1 by omega]
    apply Array.toList_inj.1
    simp only [Array.toList_append, Array.toList_push, List.append_assoc]
    congr 1
    rw [List.drop_eq_getElem_cons (by omega : o + i < cs.length), List.take_succ_cons]
    simp

theorem run_loadCells {w : World} {b o n : Nat} {cs : List Value} (h : mem w b = some cs) (hn : o + n ≤ cs.length) :
    (loadCells ⟨b, o, none⟩ n).run P w = .ok ((cs.drop o).take n).toArray w := by
  unfold loadCells
  rw [run_loadCellsFrom h n o 0 #[] (by omega)]
  simp

theorem run_store1 {w : World} {b i : Nat} {cs : List Value} {v : Value} (h : mem w b = some cs) (ho : opn w b = true) (hv : one v = true) (hi : i < cs.length) :
    (store ⟨b, i, none⟩ v).run P w = .ok () (put w b (cs.set i v)) := by
  have hc : w.cell? ⟨b, i, none⟩ = some cs[i] := by rw [cell_mem h]; exact List.getElem?_eq_getElem hi
  have hf := frozen_opn (i := i) ho
  cases v <;> simp [one] at hv <;> simp [store, Sem.run, hc, hf, setCell_put _ h]

theorem run_storeCells {b : Nat} : ∀ (vs cs : List Value) (w : World) (o i : Nat), mem w b = some cs → opn w b = true → (∀ v ∈ vs, one v = true) → o + i + vs.length ≤ cs.length →
    (storeCells ⟨b, o, none⟩ vs i).run P w = .ok () (put w b (seg cs (o + i) vs))
  | [], cs, w, o, i, h, _, _, _ => by simp [storeCells, seg, put_same h]
  | v :: vs, cs, w, o, i, h, ho, hv, hn => by
    simp only [List.length_cons] at hn
    simp only [storeCells, Sem.run_bind, add_none]
    rw [run_store1 h ho (hv v (by simp)) (by omega)]
    simp only [Result.andThen_ok]
    rw [run_storeCells vs (cs.set (o + i) v) _ o (i + 1) (by simp [mem_put, h]) (by rw [opn_put]; exact ho) (fun u hu => hv u (by simp [hu])) (by simp; omega), put_put]
    rfl

theorem run_underlying {t : TypeId} {d : TypeDesc} (w : World) (h : P.underlying t = some d) : (underlying t).run P w = .ok d w := by
  simp [underlying, program, Sem.run, h]

theorem run_typeInfo {t : TypeId} {i : TypeInfo} (w : World) (h : P.info? t = some i) : (typeInfo t).run P w = .ok i w := by
  simp [typeInfo, program, Sem.run, h]

theorem run_sizeOf {t : TypeId} {i : TypeInfo} (w : World) (h : P.info? t = some i) : (sizeOf t).run P w = .ok i.size w := by
  simp [sizeOf, run_typeInfo w h]

theorem run_zeroValue {t : TypeId} {i : TypeInfo} {z : Value} (w : World) (h : P.info? t = some i) (hz : i.zero = some z) : (zeroValue t).run P w = .ok z w := by
  simp [zeroValue, run_typeInfo w h, hz]

abbrev isAggD : TypeDesc → Bool
  | .struct _ | .array _ _ => true
  | _ => false

theorem run_isAgg {t : TypeId} {d : TypeDesc} (w : World) (h : P.underlying t = some d) : (isAgg t).run P w = .ok (isAggD d) w := by
  simp only [isAgg, Sem.run_bind, run_underlying w h, Result.andThen_ok]
  cases d <;> rfl

theorem run_newRow (w : World) (e : TypeId) (c : Array Value) : (newRow e c).run P w = .ok ⟨w.heap.size, 0, none⟩ (w.alloc (.cells c e)) := by
  simp only [newRow, Sem.run_bind]
  rfl
end

end Go.Proofs.YtoealglbimbbmaaGreatDoor.S

/-
  THE WORDS OF THE PLAIN FORM: for each kind of operation what it asks of its operands and of the memory, and what it hands on; and that the model's operation does just that.
-/
namespace Go.Proofs.YtoealglbimbbmaaGreatDoor.S
open Go

abbrev KV := Value → World → Prop
/-- a string of these bytes -/
abbrev strV (l : List UInt8) : Value := .string ⟨l.toArray⟩

def pickW (c a b : Value) (K : KV) (w : World) : Prop := match c with | .bool t => K (if t then a else b) w | _ => False
def notW (x : Value) (K : KV) (w : World) : Prop := match x with | .bool t => K (.bool (!t)) w | _ => False
/-- a value as an interface's -/
def ifaceW (t : Nat) (x : Value) (K : KV) (w : World) : Prop := K (.iface t x) w
def convW (k : IntKind) (x : Value) (K : KV) (w : World) : Prop := match x with | .int _ n => K (.int k (k.wrap n)) w | _ => False

def intBin (op : BinOp) (k : IntKind) (a b : Int) : Option Value :=
  match op with
  | .add => some (.int k (k.wrap (a + b)))
  | .sub => some (.int k (k.wrap (a - b)))
  | .mul => some (.int k (k.wrap (a * b)))
  | .quo => if b = 0 then none else some (.int k (k.wrap (a.tdiv b)))
  | .rem => if b = 0 then none else some (.int k (a.tmod b))
  | .and => some (.int k (k.wrap (BitVec.ofInt k.bits a &&& BitVec.ofInt k.bits b).toNat))
  | .or => some (.int k (k.wrap (BitVec.ofInt k.bits a ||| BitVec.ofInt k.bits b).toNat))
  | .xor => some (.int k (k.wrap (BitVec.ofInt k.bits a ^^^ BitVec.ofInt k.bits b).toNat))
  | .eql => some (.bool (a == b))
  | .neq => some (.bool (a != b))
  | .lss => some (.bool (a < b))
  | .leq => some (.bool (a ≤ b))
  | .gtr => some (.bool (a > b))
  | .geq => some (.bool (a ≥ b))
  | _ => none

def onSome (o : Option Value) (K : KV) (w : World) : Prop := match o with | some v => K v w | none => False

def binIntW (op : BinOp) (x y : Value) (K : KV) (w : World) : Prop :=
  match x, y with
  | .int k a, .int k' b =>
    match op with
    | .shl => 0 ≤ b ∧ K (.int k (k.wrap (a * 2 ^ min b.toNat k.bits))) w
    | .shr => 0 ≤ b ∧ K (.int k (a.fdiv (2 ^ min b.toNat k.bits))) w
    | op => k = k' ∧ onSome (intBin op k a b) K w
  | _, _ => False

/-- == or != of a known truth -/
def eqW (op : BinOp) (t : Bool) (K : KV) (w : World) : Prop := match op with | .eql => K (.bool t) w | .neq => K (.bool (!t)) w | _ => False

def binBoolW (op : BinOp) (x y : Value) (K : KV) (w : World) : Prop := match x, y with | .bool a, .bool b => eqW op (a == b) K w | _, _ => False

def eqNilW (op : BinOp) (x y : Value) (K : KV) (w : World) : Prop :=
  match x, y with
  | .pointer none, .pointer b => eqW op b.isNone K w
  | .pointer (some _), .pointer none => eqW op false K w
  | _, _ => False

/-- == of strings -/
def eqStrW (op : BinOp) (x y : Value) (K : KV) (w : World) : Prop := match x, y with | .string a, .string b => eqW op (a.toList == b.toList) K w | _, _ => False
/-- a part of a string -/
def sliceSW (x : Value) (lo hi : Option Value) (K : KV) (w : World) : Prop := match x, lo, hi with
  | .string s, some (.int _ a), some (.int _ b) => 0 ≤ a ∧ a ≤ b ∧ b ≤ s.size ∧ K (.string (s.extract a.toNat b.toNat)) w
  | _, _, _ => False
/-- an interface's value as one of a plain type -/
def assertW (t : Nat) (z x : Value) (K : KV) (w : World) : Prop := match x with | .iface t' v => K (if t' = t then .tuple #[v, .bool true] else .tuple #[z, .bool false]) w | _ => False
/-- what the plain form does not cover -/
def falseP : World → Prop := fun _ => False

def eqNilSliceW (op : BinOp) (x y : Value) (K : KV) (w : World) : Prop :=
  match x, y with
  | .slice none _ _, .slice b _ _ => eqW op b.isNone K w
  | .slice (some _) _ _, .slice none _ _ => eqW op false K w
  | _, _ => False

/-- kinds of a plain struct's cells -/
inductive CK where
  | b
  | i (k : IntKind)
  deriving DecidableEq

def fits : List CK → List Value → Prop
  | [], [] => True
  | .b :: ks, .bool _ :: vs => fits ks vs
  | .i k :: ks, .int k' _ :: vs => k = k' ∧ fits ks vs
  | _, _ => False

def eqCells : List Value → List Value → Bool
  | [], [] => true
  | .bool a :: xs, .bool b :: ys => a == b && eqCells xs ys
  | .int _ a :: xs, .int _ b :: ys => a == b && eqCells xs ys
  | _, _ => false

def eqAggW (ks : List CK) (op : BinOp) (x y : Value) (K : KV) (w : World) : Prop :=
  match x, y with
  | .agg xs, .agg ys => fits ks xs.toList ∧ fits ks ys.toList ∧ eqW op (eqCells xs.toList ys.toList) K w
  | _, _ => False

def load1W (a : Value) (K : KV) (w : World) : Prop :=
  match a with
  | .pointer (some ⟨b, i, none⟩) => match mem w b with
    | some cs => onSome cs[i]? K w
    | none => False
  | _ => False

def loadNW (n : Nat) (a : Value) (K : KV) (w : World) : Prop :=
  match a with
  | .pointer (some ⟨b, o, none⟩) => match mem w b with
    | some cs => o + n ≤ cs.length ∧ K (.agg ((cs.drop o).take n).toArray) w
    | none => False
  | _ => False

def storeW (n : Nat) (a v : Value) (K : KV) (w : World) : Prop :=
  match a with
  | .pointer (some ⟨b, o, none⟩) => match mem w b with
    | some cs => v.cells.size = n ∧ (∀ u ∈ v.cells.toList, one u = true) ∧ opn w b = true ∧ o + n ≤ cs.length ∧ K undef (put w b (seg cs o v.cells.toList))
    | none => False
  | _ => False

def newW (cells : Array Value) (K : KV) (w : World) : Prop := ∀ T, K (.pointer (some ⟨w.heap.size, 0, none⟩)) (w.alloc (.cells cells T))

def addW (n : Nat) (x : Value) (K : KV) (w : World) : Prop := match x with | .pointer (some ⟨b, i, none⟩) => K (.pointer (some ⟨b, i + n, none⟩)) w | _ => False

def idxW (sz : Nat) (x ix : Value) (K : KV) (w : World) : Prop :=
  match x, ix with
  | .slice (some ⟨b, o, none⟩) len _, .int _ i => 0 ≤ i ∧ i < len ∧ K (.pointer (some ⟨b, o + i.toNat * sz, none⟩)) w
  | _, _ => False

def idxArrW (len sz : Nat) (x ix : Value) (K : KV) (w : World) : Prop :=
  match x, ix with
  | .pointer (some ⟨b, o, none⟩), .int _ i => 0 ≤ i ∧ i < len ∧ K (.pointer (some ⟨b, o + i.toNat * sz, none⟩)) w
  | _, _ => False

/-- part of a struct's or an array's value: 'agg': the part is one itself -/
def partW (isAgg : Bool) (off size : Nat) (x : Value) (K : KV) (w : World) : Prop :=
  match x with
  | .agg cs => if isAgg then K (.agg (cs.extract off (off + size))) w else onSome cs[off]? K w
  | _ => False

def extractW (i : Nat) (x : Value) (K : KV) (w : World) : Prop := match x with | .tuple vs => onSome vs[i]? K w | _ => False

def lenW (x : Value) (K : KV) (w : World) : Prop := match x with | .slice _ n _ => K (.int .i64 n) w | _ => False

def max2V : Value → Value → Option Value
  | .int k x, .int _ y => some (.int k (if y > x then y else x))
  | _, _ => none
def min2V : Value → Value → Option Value
  | .int k x, .int _ y => some (.int k (if y < x then y else x))
  | _, _ => none
def foldV (f : Value → Value → Option Value) : Value → List Value → Option Value
  | x, [] => some x
  | x, y :: l => match f x y with | some z => foldV f z l | none => none

def maxW (x : Value) (l : List Value) (K : KV) (w : World) : Prop := onSome (foldV max2V x l) K w
def minW (x : Value) (l : List Value) (K : KV) (w : World) : Prop := onSome (foldV min2V x l) K w

def nilW (x : Value) (K : KV) (w : World) : Prop := match x with | .pointer (some _) => K x w | .func (.func _) _ _ => K x w | _ => False

/-- a struct's value out of its parts: place, size, value -/
def buildL (zero : List Value) : List (Nat × Nat × Value) → Option (List Value)
  | [] => some zero
  | (o, n, v) :: r => if v.cells.size = n ∧ o + n ≤ zero.length then buildL (seg zero o v.cells.toList) r else none

def buildW (zero : List Value) (parts : List (Nat × Nat × Value)) (K : KV) (w : World) : Prop := match buildL zero parts with | some cs => K (.agg cs.toArray) w | none => False

/-- so many elements, each so -/
def repl (n : Nat) (zero : List Value) : List Value := (List.replicate n zero).flatten

def buildSliceW (zero : List Value) (len : Nat) (parts : List (Nat × Nat × Value)) (K : KV) (w : World) : Prop :=
  len * zero.length ≤ 16777216 ∧
  match buildL (repl len zero) parts with
  | some cs => ∀ T, K (.slice (some ⟨w.heap.size, 0, none⟩) len len) (w.alloc (.cells cs.toArray T))
  | none => False

def makeSliceW (bytes : Nat) (zero : List Value) (len cap : Value) (K : KV) (w : World) : Prop :=
  match len, cap with
  | .int _ l, .int _ c => 0 ≤ l ∧ l ≤ c ∧ c ≤ maxLen ∧ bytes * c ≤ 140737488355328 ∧ ∀ T, K (.slice (some ⟨w.heap.size, 0, none⟩) l.toNat c.toNat) (w.alloc (.cells (repl c.toNat zero).toArray T))
  | _, _ => False

def bound (o : Option Value) (d : Nat) : Option Int := match o with | none => some d | some (.int _ n) => some n | some _ => none

def sliceW (sz : Nat) (x : Value) (lo hi : Option Value) (K : KV) (w : World) : Prop :=
  match x with
  | .slice a len cap => match bound lo 0, bound hi len with
    | some l, some h => 0 ≤ l ∧ l ≤ h ∧ h ≤ cap ∧ K (.slice (if cap = l.toNat then a else a.map (·.add (l.toNat * sz))) (h.toNat - l.toNat) (cap - l.toNat)) w
    | _, _ => False
  | _ => False

/-- the cells that are appended -/
def srcCells (sz : Nat) (x : Value) (w : World) : Option (Nat × List Value) :=
  match x with
  | .slice none n _ => if n = 0 then some (0, []) else none
  | .slice (some a) n _ => if n = 0 then some (0, []) else match a with
    | ⟨b, o, none⟩ => match mem w b with
      | some cs => if o + n * sz ≤ cs.length then some (n, (cs.drop o).take (n * sz)) else none
      | none => none
    | _ => none
  | _ => none

def appendW (sz bytes : Nat) (s x : Value) (K : KV) (w : World) : Prop :=
  match s, srcCells sz x w with
  | .slice a len cap, some (n, new) =>
    match a with
    | none => len = 0 ∧ cap = 0 ∧ n * bytes ≤ 140737488355328 ∧ n ≤ maxLen ∧
      (n = 0 → K (.slice none 0 0) w) ∧
      (0 < n → ∀ (c : Nat) (rest : List Value) T, n ≤ c → c ≤ maxLen → rest.length = (c - n) * sz → K (.slice (some ⟨w.heap.size, 0, none⟩) n c) (w.drew.alloc (.cells (new ++ rest).toArray T)))
    | some ⟨b, o, none⟩ => match mem w b with
      | some cs => o + cap * sz ≤ cs.length ∧ len ≤ cap ∧ (len + n) * bytes ≤ 140737488355328 ∧ len + n ≤ maxLen ∧
        (len + n ≤ cap → (n = 0 ∨ opn w b = true) ∧ (∀ u ∈ new, one u = true) ∧ K (.slice (some ⟨b, o, none⟩) (len + n) cap) (put w b (seg cs (o + len * sz) new))) ∧
        (cap < len + n → ∀ (c : Nat) (rest : List Value) T, len + n ≤ c → c ≤ maxLen → rest.length = (c - (len + n)) * sz →
          K (.slice (some ⟨w.heap.size, 0, none⟩) (len + n) c) (w.drew.alloc (.cells ((cs.drop o).take (len * sz) ++ new ++ rest).toArray T)))
      | none => False
    | _ => False
  | _, _ => False

/-! all ways behind a piece of code meet in one -/
def joinW0 (J : World → Prop) (B : (World → Prop) → World → Prop) : World → Prop := B J
def joinW1 (J : Value → World → Prop) (B : (Value → World → Prop) → World → Prop) : World → Prop := B J
def joinW2 (J : Value → Value → World → Prop) (B : (Value → Value → World → Prop) → World → Prop) : World → Prop := B J
def joinW3 (J : Value → Value → Value → World → Prop) (B : (Value → Value → Value → World → Prop) → World → Prop) : World → Prop := B J

end Go.Proofs.YtoealglbimbbmaaGreatDoor.S
