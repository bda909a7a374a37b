/-
  THE PLAIN FORMS OF THE FUNCTIONS, by a program.
-/
import Derived.Test.YtpabihjmjkodbaaSCode
import Derived.Test.YtpabihjmjkodbaaProg
namespace Go.Proofs.Ytpabihjmjkodbaa.S
open Go Go.Proofs
set_option linter.unusedVariables false
set_option maxRecDepth 100000
abbrev Fn.gosem_cut_init : Nat := 2
abbrev Fn.law2_HeapRuns : Nat := 3
abbrev Fn.law2_HeapPlays : Nat := 4
abbrev Fn.law2_HeapCopies : Nat := 5
abbrev Fn.law2_HeapAll : Nat := 6
abbrev Fn.law12_LimboRuns : Nat := 7
abbrev Fn.law12_LimboPlays : Nat := 8
abbrev Fn.law12_LimboWaits : Nat := 9
abbrev Fn.law5_EpochRuns : Nat := 10
abbrev Fn.law5_EpochPassed : Nat := 11
abbrev Fn.law7_ReadsRuns : Nat := 12
abbrev Fn.law7_ReadsPlays : Nat := 13
abbrev Fn.law7_ReadsFull : Nat := 14
abbrev Fn.law7_ReadsStands : Nat := 15
abbrev Fn.law5_EpochPlays : Nat := 16
abbrev Fn.law5_EpochCopies : Nat := 17
abbrev Fn.heap_New : Nat := 18
abbrev Fn.heap_Heap_Store : Nat := 19
abbrev Fn.heap_Heap_Load : Nat := 20
abbrev Fn.heap_Heap_Len : Nat := 21
abbrev Fn.heap_Heap_All : Nat := 22
abbrev Fn.heap_Heap_Copy : Nat := 23
abbrev Fn.law2_do : Nat := 24
abbrev Fn.ref1_Held : Nat := 25
abbrev Fn.limbo_New : Nat := 26
abbrev Fn.limbo_Limbo_Add : Nat := 27
abbrev Fn.limbo_Limbo_Ripe : Nat := 28
abbrev Fn.limbo_Limbo_Len : Nat := 29
abbrev Fn.limbo_Limbo_All : Nat := 30
abbrev Fn.ref7_Ripe : Nat := 31
abbrev Fn.book_Same_api_Rest : Nat := 32
abbrev Fn.epoch_Passed : Nat := 33
abbrev Fn.epoch_New : Nat := 34
abbrev Fn.epoch_Slots_Store : Nat := 35
abbrev Fn.epoch_Slots_Least : Nat := 36
abbrev Fn.epoch_Slots_Passed : Nat := 37
abbrev Fn.epoch_Slots_Len : Nat := 38
abbrev Fn.epoch_Slots_All : Nat := 39
abbrev Fn.epoch_Slots_Copy : Nat := 40
abbrev Fn.reads_New : Nat := 41
abbrev Fn.reads_Reads_Add : Nat := 42
abbrev Fn.reads_Reads_Get : Nat := 43
abbrev Fn.reads_Reads_Len : Nat := 44
abbrev Fn.reads_Reads_All : Nat := 45
abbrev Fn.reads_Reads_Stands : Nat := 46
abbrev Fn.ref7_NewReads : Nat := 47
abbrev Fn.law7_near : Nat := 48
abbrev Fn.ref7_Reads_Add : Nat := 49
abbrev Fn.book_Same_api_Seen : Nat := 50
abbrev Fn.ref7_Stands : Nat := 51
abbrev Fn.law5_do : Nat := 52
abbrev Fn.book_Same_uint64 : Nat := 53
abbrev Fn.heap_Heap_is : Nat := 54
abbrev Fn.slices_Clone_uint64_uint64 : Nat := 55
abbrev Fn.slices_Clone_api_Rest_api_Rest : Nat := 56
abbrev Fn.ref1_Passed : Nat := 57
abbrev Fn.epoch_Slots_is : Nat := 58
abbrev Fn.slices_Clone_api_Seen_api_Seen : Nat := 59
abbrev Fn.book_Within : Nat := 60
abbrev Fn.epoch_Slots_Load : Nat := 61

/-- law2_HeapRuns -/
def S_law2_HeapRuns (K : KV) (w : World) : Prop :=
 CP Try.prog Fn.heap_New [(Value.int .i64 40)] (fun x1 w =>
 eqNilW .eql x1 (Value.pointer none) (fun x2 w =>
 condW x2 (K (Value.bool false) w) (CP Try.prog Fn.heap_Heap_Store [x1, (Value.int .i64 39), (Value.int .u64 7)] (fun x3 w =>
 CP Try.prog Fn.heap_Heap_Load [x1, (Value.int .i64 39)] (fun x4 w =>
 extractW 0 x4 (fun x5 w =>
 extractW 1 x4 (fun x6 w =>
 CP Try.prog Fn.heap_Heap_Load [x1, (Value.int .i64 40)] (fun x7 w =>
 extractW 0 x7 (fun x8 w =>
 extractW 1 x7 (fun x9 w =>
 CP Try.prog Fn.heap_Heap_Load [x1, (Value.int .i64 0)] (fun x10 w =>
 extractW 0 x10 (fun x11 w =>
 extractW 1 x10 (fun x12 w =>
 binIntW .eql x3 (Value.int .i64 0) (fun x13 w =>
 gW x13 true (fun K w => K x6 w) (fun x14 w =>
 gW x13 true (fun K w => binIntW .eql x14 (Value.int .i64 0) K w) (fun x15 w =>
 pickW x13 x15 (Value.bool false) (fun x16 w =>
 gW x16 true (fun K w => K x5 w) (fun x17 w =>
 gW x16 true (fun K w => binIntW .eql x17 (Value.int .u64 7) K w) (fun x18 w =>
 pickW x16 x18 (Value.bool false) (fun x19 w =>
 gW x19 true (fun K w => K x9 w) (fun x20 w =>
 gW x19 true (fun K w => binIntW .eql x20 (Value.int .i64 2) K w) (fun x21 w =>
 pickW x19 x21 (Value.bool false) (fun x22 w =>
 gW x22 true (fun K w => K x12 w) (fun x23 w =>
 gW x22 true (fun K w => binIntW .eql x23 (Value.int .i64 2) K w) (fun x24 w =>
 pickW x22 x24 (Value.bool false) (fun x25 w =>
 gW x25 true (fun K w => K x1 w) (fun x26 w =>
 gW x25 true (fun K w => CP Try.prog Fn.heap_Heap_Len [x26] K w) (fun x27 w =>
 gW x25 true (fun K w => binIntW .eql x27 (Value.int .i64 40) K w) (fun x28 w =>
 pickW x25 x28 (Value.bool false) (fun x29 w =>
 gW x29 true (fun K w => K x1 w) (fun x30 w =>
 gW x29 true (fun K w => CP Try.prog Fn.heap_Heap_All [x30] K w) (fun x31 w =>
 gW x29 true (fun K w => lenW x31 K w) (fun x32 w =>
 gW x29 true (fun K w => binIntW .eql x32 (Value.int .i64 40) K w) (fun x33 w =>
 pickW x29 x33 (Value.bool false) (fun x34 w =>
 gW x34 true (fun K w => K x1 w) (fun x35 w =>
 gW x34 true (fun K w => CP Try.prog Fn.heap_Heap_Copy [x35] K w) (fun x36 w =>
 gW x34 true (fun K w => eqNilW .neq x36 (Value.pointer none) K w) (fun x37 w =>
 pickW x34 x37 (Value.bool false) (fun x38 w =>
 K x38 w) w) w) w) w) w) w) w) w) w) w) w) w) w) w) w) w) w) w) w) w) w) w) w) w) w) w) w) w) w) w) w) w) w) w) w) w)) w) w

/-- law2_HeapPlays -/
def S_law2_HeapPlays (a0 a1 : Value) (K : KV) (w : World) : Prop :=
 CP Try.prog Fn.law2_HeapRuns [] (fun x1 w =>
 notW x1 (fun x2 w =>
 condW x2 (K (Value.bool false) w) (CP Try.prog Fn.heap_New [a0] (fun x3 w =>
 eqNilW .neq x3 (Value.pointer none) (fun x4 w =>
 gW x4 true (fun K w => K x3 w) (fun x5 w =>
 gW x4 true (fun K w => K a0 w) (fun x6 w =>
 gW x4 true (fun K w => CP Try.prog Fn.ref1_Held [x6, (Value.int .i64 32), (Value.int .i64 256)] K w) (fun x7 w =>
 gW x4 true (fun K w => makeSliceW 8 [(Value.int .u64 0)] x7 x7 K w) (fun x8 w =>
 gW x4 true (fun K w => K a1 w) (fun x9 w =>
 gW x4 true (fun K w => CP Try.prog Fn.law2_do [x5, x8, x9] K w) (fun x10 w =>
 pickW x4 x10 (Value.bool false) (fun x11 w =>
 K x11 w) w) w) w) w) w) w) w) w) w)) w) w

/-- law2_HeapCopies -/
def S_law2_HeapCopies (a0 a1 a2 a3 : Value) (K : KV) (w : World) : Prop :=
 CP Try.prog Fn.law2_HeapRuns [] (fun x1 w =>
 notW x1 (fun x2 w =>
 condW x2 (K (Value.bool false) w) (CP Try.prog Fn.heap_New [a0] (fun x3 w =>
 eqNilW .eql x3 (Value.pointer none) (fun x4 w =>
 condW x4 (K (Value.bool false) w) (CP Try.prog Fn.ref1_Held [a0, (Value.int .i64 32), (Value.int .i64 256)] (fun x5 w =>
 makeSliceW 8 [(Value.int .u64 0)] x5 x5 (fun x6 w =>
 CP Try.prog Fn.law2_do [x3, x6, a1] (fun x7 w =>
 notW x7 (fun x8 w =>
 condW x8 (K (Value.bool false) w) (CP Try.prog Fn.heap_Heap_Copy [x3] (fun x9 w =>
 appendW 1 8 (Value.slice none 0 0) x6 (fun x10 w =>
 eqNilW .neq x9 (Value.pointer none) (fun x11 w =>
 gW x11 true (fun K w => K x9 w) (fun x12 w =>
 gW x11 true (fun K w => K x10 w) (fun x13 w =>
 gW x11 true (fun K w => K a2 w) (fun x14 w =>
 gW x11 true (fun K w => CP Try.prog Fn.law2_do [x12, x13, x14] K w) (fun x15 w =>
 pickW x11 x15 (Value.bool false) (fun x16 w =>
 gW x16 true (fun K w => K x3 w) (fun x17 w =>
 gW x16 true (fun K w => K x6 w) (fun x18 w =>
 gW x16 true (fun K w => K a3 w) (fun x19 w =>
 gW x16 true (fun K w => CP Try.prog Fn.law2_do [x17, x18, x19] K w) (fun x20 w =>
 pickW x16 x20 (Value.bool false) (fun x21 w =>
 gW x21 true (fun K w => K x9 w) (fun x22 w =>
 gW x21 true (fun K w => K x10 w) (fun x23 w =>
 gW x21 true (fun K w => CP Try.prog Fn.law2_do [x22, x23, (Value.slice none 0 0)] K w) (fun x24 w =>
 pickW x21 x24 (Value.bool false) (fun x25 w =>
 K x25 w) w) w) w) w) w) w) w) w) w) w) w) w) w) w) w) w) w)) w) w) w) w)) w) w)) w) w

/-- law2_HeapAll -/
def S_law2_HeapAll (a0 a1 a2 : Value) (K : KV) (w : World) : Prop :=
 CP Try.prog Fn.law2_HeapRuns [] (fun x1 w =>
 notW x1 (fun x2 w =>
 condW x2 (K (Value.bool false) w) (CP Try.prog Fn.heap_New [a0] (fun x3 w =>
 eqNilW .eql x3 (Value.pointer none) (fun x4 w =>
 condW x4 (K (Value.bool false) w) (CP Try.prog Fn.ref1_Held [a0, (Value.int .i64 32), (Value.int .i64 256)] (fun x5 w =>
 makeSliceW 8 [(Value.int .u64 0)] x5 x5 (fun x6 w =>
 CP Try.prog Fn.law2_do [x3, x6, a1] (fun x7 w =>
 notW x7 (fun x8 w =>
 condW x8 (K (Value.bool false) w) (CP Try.prog Fn.heap_Heap_All [x3] (fun x9 w =>
 lenW x9 (fun x10 w =>
 lenW x6 (fun x11 w =>
 binIntW .neq x10 x11 (fun x12 w =>
 condW x12 (K (Value.bool false) w) (lenW x6 (fun x13 w =>
 binIntW .sub x13 (Value.int .i64 1) (fun x14 w =>
 CP Try.prog Fn.ref1_Held [a2, (Value.int .i64 0), x14] (fun x15 w =>
 idxW 1 x9 x15 (fun x16 w =>
 load1W x16 (fun x17 w =>
 binIntW .add x17 (Value.int .u64 1) (fun x18 w =>
 idxW 1 x9 x15 (fun x19 w =>
 storeW 1 x19 x18 (fun _ w =>
 CP Try.prog Fn.law2_do [x3, x6, (Value.slice none 0 0)] (fun x21 w =>
 K x21 w) w) w) w) w) w) w) w) w) w)) w) w) w) w)) w) w) w) w)) w) w)) w) w

/-- heap_New -/
def S_heap_New (a0 : Value) (K : KV) (w : World) : Prop :=
 minW a0 [(Value.int .i64 256)] (fun x1 w =>
 maxW (Value.int .i64 32) [x1] (fun x2 w =>
 makeSliceW 8 [(Value.int .u64 0)] x2 x2 (fun x3 w =>
 buildW [(Value.slice none 0 0)] [(0, 1, x3)] (fun x4 w =>
 newW (Value.cells x4) (fun x5 w =>
 K x5 w) w) w) w) w) w

/-- heap_Heap_Store -/
def S_heap_Heap_Store (a0 a1 a2 : Value) (K : KV) (w : World) : Prop :=
 CP Try.prog Fn.heap_Heap_is [a0, a1] (fun x1 w =>
 notW x1 (fun x2 w =>
 condW x2 (K (Value.int .i64 2) w) (nilW a0 (fun x3 w =>
 addW 0 x3 (fun x4 w =>
 load1W x4 (fun x5 w =>
 idxW 1 x5 a1 (fun x6 w =>
 storeW 1 x6 a2 (fun _ w =>
 K (Value.int .i64 0) w) w) w) w) w) w)) w) w

/-- heap_Heap_Load -/
def S_heap_Heap_Load (a0 a1 : Value) (K : KV) (w : World) : Prop :=
 CP Try.prog Fn.heap_Heap_is [a0, a1] (fun x1 w =>
 notW x1 (fun x2 w =>
 condW x2 (K (Value.tuple #[(Value.int .u64 0), (Value.int .i64 2)]) w) (nilW a0 (fun x3 w =>
 addW 0 x3 (fun x4 w =>
 load1W x4 (fun x5 w =>
 idxW 1 x5 a1 (fun x6 w =>
 load1W x6 (fun x7 w =>
 K (Value.tuple #[x7, (Value.int .i64 0)]) w) w) w) w) w) w)) w) w

/-- heap_Heap_Len -/
def S_heap_Heap_Len (a0 : Value) (K : KV) (w : World) : Prop :=
 nilW a0 (fun x1 w =>
 addW 0 x1 (fun x2 w =>
 load1W x2 (fun x3 w =>
 lenW x3 (fun x4 w =>
 K x4 w) w) w) w) w

/-- heap_Heap_All -/
def S_heap_Heap_All (a0 : Value) (K : KV) (w : World) : Prop :=
 nilW a0 (fun x1 w =>
 addW 0 x1 (fun x2 w =>
 load1W x2 (fun x3 w =>
 CP Try.prog Fn.slices_Clone_uint64_uint64 [x3] (fun x4 w =>
 K x4 w) w) w) w) w

/-- heap_Heap_Copy -/
def S_heap_Heap_Copy (a0 : Value) (K : KV) (w : World) : Prop :=
 CP Try.prog Fn.heap_Heap_All [a0] (fun x1 w =>
 buildW [(Value.slice none 0 0)] [(0, 1, x1)] (fun x2 w =>
 newW (Value.cells x2) (fun x3 w =>
 K x3 w) w) w) w

/-- law2_do -/
def S_law2_do (a0 a1 a2 : Value) (K : KV) (w : World) : Prop :=
∃ (I2 : List Value → World → Prop) (m2 : List Value → World → Nat), I2 [(Value.int .i64 0)] w ∧ ∀ (x1 : Value), ∀ w2, I2 [x1] w2 →
(lenW a2 (fun x2 w =>
 binIntW .lss x1 x2 (fun x3 w =>
 gW x3 true (fun K w => K x1 w) (fun x4 w =>
 gW x3 true (fun K w => binIntW .lss x4 (Value.int .i64 100) K w) (fun x5 w =>
 pickW x3 x5 (Value.bool false) (fun x6 w =>
 condW x6 (idxW 3 a2 x1 (fun x7 w =>
 loadNW 3 x7 (fun x8 w =>
 newW #[(Value.bool false), (Value.int .i64 0), (Value.int .u64 0)] (fun x9 w =>
 storeW 3 x9 x8 (fun _ w =>
 addW 1 x9 (fun x11 w =>
 load1W x11 (fun x12 w =>
 binIntW .geq x12 (Value.int .i64 1) (fun x13 w =>
 gW x13 true (fun K w => addW 1 x9 K w) (fun x14 w =>
 gW x13 true (fun K w => load1W x14 K w) (fun x15 w =>
 gW x13 true (fun K w => K a1 w) (fun x16 w =>
 gW x13 true (fun K w => lenW x16 K w) (fun x17 w =>
 gW x13 true (fun K w => binIntW .lss x15 x17 K w) (fun x18 w =>
 pickW x13 x18 (Value.bool false) (fun x19 w =>
 addW 0 x9 (fun x20 w =>
 load1W x20 (fun x21 w =>
 let j1 : World → Prop := fun w =>
(addW 1 x9 (fun x22 w =>
 load1W x22 (fun x23 w =>
 CP Try.prog Fn.heap_Heap_Load [a0, x23] (fun x24 w =>
 extractW 0 x24 (fun x25 w =>
 extractW 1 x24 (fun x26 w =>
 binIntW .eql x26 (Value.int .i64 0) (fun x27 w =>
 binBoolW .neq x27 x19 (fun x28 w =>
 gW x28 false (fun K w => K x19 w) (fun x29 w =>
 gW x28 false (fun K w => notW x29 K w) (fun x30 w =>
 gW x28 false (fun K w => K x30 w) (fun x31 w =>
 gW x31 true (fun K w => K x26 w) (fun x32 w =>
 gW x31 true (fun K w => binIntW .neq x32 (Value.int .i64 2) K w) (fun x33 w =>
 gW x31 true (fun K w => K x33 w) (fun x34 w =>
 gW x34 false (fun K w => K x25 w) (fun x35 w =>
 gW x34 false (fun K w => binIntW .neq x35 (Value.int .u64 0) K w) (fun x36 w =>
 gW x31 true (fun K w => pickW x34 (Value.bool true) x36 K w) (fun x37 w =>
 gW x28 false (fun K w => pickW x31 x37 (Value.bool false) K w) (fun x38 w =>
 pickW x28 (Value.bool true) x38 (fun x39 w =>
 gW x39 false (fun K w => K x19 w) (fun x40 w =>
 gW x39 false (fun K w => K x40 w) (fun x41 w =>
 gW x41 true (fun K w => K x25 w) (fun x42 w =>
 gW x41 true (fun K w => K a1 w) (fun x43 w =>
 gW x41 true (fun K w => addW 1 x9 K w) (fun x44 w =>
 gW x41 true (fun K w => load1W x44 K w) (fun x45 w =>
 gW x41 true (fun K w => idxW 1 x43 x45 K w) (fun x46 w =>
 gW x41 true (fun K w => load1W x46 K w) (fun x47 w =>
 gW x41 true (fun K w => binIntW .neq x42 x47 K w) (fun x48 w =>
 gW x39 false (fun K w => pickW x41 x48 (Value.bool false) K w) (fun x49 w =>
 pickW x39 (Value.bool true) x49 (fun x50 w =>
 condW x50 (K (Value.bool false) w) (binIntW .add x1 (Value.int .i64 1) (fun x51 w =>
 I2 [x51] w ∧ m2 [x51] w < m2 [x1] w2) w)) w) w) w) w) w) w) w) w) w) w) w) w) w) w) w) w) w) w) w) w) w) w) w) w) w) w) w) w) w)
 condW x21 (addW 1 x9 (fun x52 w =>
 load1W x52 (fun x53 w =>
 addW 2 x9 (fun x54 w =>
 load1W x54 (fun x55 w =>
 CP Try.prog Fn.heap_Heap_Store [a0, x53, x55] (fun x56 w =>
 binIntW .eql x56 (Value.int .i64 0) (fun x57 w =>
 binBoolW .neq x57 x19 (fun x58 w =>
 gW x58 false (fun K w => K x19 w) (fun x59 w =>
 gW x58 false (fun K w => notW x59 K w) (fun x60 w =>
 gW x58 false (fun K w => K x60 w) (fun x61 w =>
 gW x61 true (fun K w => K x56 w) (fun x62 w =>
 gW x61 true (fun K w => binIntW .neq x62 (Value.int .i64 2) K w) (fun x63 w =>
 gW x58 false (fun K w => pickW x61 x63 (Value.bool false) K w) (fun x64 w =>
 pickW x58 (Value.bool true) x64 (fun x65 w =>
 condW x65 (K (Value.bool false) w) (let j2 : World → Prop := fun w =>
(j1 w)
 condW x19 (addW 1 x9 (fun x66 w =>
 load1W x66 (fun x67 w =>
 addW 2 x9 (fun x68 w =>
 load1W x68 (fun x69 w =>
 idxW 1 a1 x67 (fun x70 w =>
 storeW 1 x70 x69 (fun _ w =>
 j2 w) w) w) w) w) w) w) (j2 w))) w) w) w) w) w) w) w) w) w) w) w) w) w) w) (j1 w)) w) w) w) w) w) w) w) w) w) w) w) w) w) w) w) (CP Try.prog Fn.heap_Heap_All [a0] (fun x72 w =>
 lenW x72 (fun x73 w =>
 lenW a1 (fun x74 w =>
 binIntW .neq x73 x74 (fun x75 w =>
 gW x75 false (fun K w => K a0 w) (fun x76 w =>
 gW x75 false (fun K w => CP Try.prog Fn.heap_Heap_Len [x76] K w) (fun x77 w =>
 gW x75 false (fun K w => K a1 w) (fun x78 w =>
 gW x75 false (fun K w => lenW x78 K w) (fun x79 w =>
 gW x75 false (fun K w => binIntW .neq x77 x79 K w) (fun x80 w =>
 pickW x75 (Value.bool true) x80 (fun x81 w =>
 condW x81 (K (Value.bool false) w) (∃ (I4 : List Value → World → Prop) (m4 : List Value → World → Nat), I4 [(Value.int .i64 0)] w ∧ ∀ (x82 : Value), ∀ w4, I4 [x82] w4 →
(lenW a1 (fun x83 w =>
 binIntW .lss x82 x83 (fun x84 w =>
 condW x84 (idxW 1 x72 x82 (fun x85 w =>
 load1W x85 (fun x86 w =>
 idxW 1 a1 x82 (fun x87 w =>
 load1W x87 (fun x88 w =>
 binIntW .neq x86 x88 (fun x89 w =>
 condW x89 (K (Value.bool false) w) (binIntW .add x82 (Value.int .i64 1) (fun x90 w =>
 I4 [x90] w ∧ m4 [x90] w < m4 [x82] w4) w)) w) w) w) w) w.drew) (K (Value.bool true) w)) w) w4))) w) w) w) w) w) w) w) w) w) w)) w) w) w) w) w2)

/-- ref1_Held -/
def S_ref1_Held (a0 a1 a2 : Value) (K : KV) (w : World) : Prop :=
 binIntW .lss a0 a1 (fun x1 w =>
 condW x1 (K a1 w) (binIntW .gtr a0 a2 (fun x2 w =>
 condW x2 (K a2 w) (K a0 w)) w)) w

/-- heap_Heap_is -/
def S_heap_Heap_is (a0 a1 : Value) (K : KV) (w : World) : Prop :=
 binIntW .geq a1 (Value.int .i64 1) (fun x1 w =>
 gW x1 true (fun K w => K a1 w) (fun x2 w =>
 gW x1 true (fun K w => K a0 w) (fun x3 w =>
 gW x1 true (fun K w => nilW x3 K w) (fun x4 w =>
 gW x1 true (fun K w => addW 0 x4 K w) (fun x5 w =>
 gW x1 true (fun K w => load1W x5 K w) (fun x6 w =>
 gW x1 true (fun K w => lenW x6 K w) (fun x7 w =>
 gW x1 true (fun K w => binIntW .lss x2 x7 K w) (fun x8 w =>
 pickW x1 x8 (Value.bool false) (fun x9 w =>
 K x9 w) w) w) w) w) w) w) w) w) w

/-- slices_Clone_uint64_uint64 -/
def S_slices_Clone_uint64_uint64 (a0 : Value) (K : KV) (w : World) : Prop :=
 eqNilSliceW .eql a0 (Value.slice none 0 0) (fun x1 w =>
 condW x1 (K (Value.slice none 0 0) w) (buildSliceW [(Value.int .u64 0)] 0 [] (fun x2 w =>
 appendW 1 8 x2 a0 (fun x3 w =>
 K x3 w) w) w)) w

end Go.Proofs.Ytpabihjmjkodbaa.S
