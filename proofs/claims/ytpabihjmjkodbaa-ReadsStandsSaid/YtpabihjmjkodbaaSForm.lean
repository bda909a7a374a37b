/-
  THE PLAIN FORMS OF THE FUNCTIONS, by a program.
-/
import Derived.Test.YtpabihjmjkodbaaG
import Derived.Test.YtpabihjmjkodbaaProg
namespace Go.Proofs.Ytpabihjmjkodbaa.S
open Go Go.Proofs
set_option linter.unusedVariables false
set_option maxRecDepth 100000
abbrev Fn.gosem_cut_init : Nat := 2
abbrev Fn.law2_HeapRuns : Nat := 3
abbrev Fn.law2_HeapPlays : Nat := 4
abbrev Fn.law2_HeapCopies : Nat := 5
abbrev Fn.law2_HeapAll : Nat := 6
abbrev Fn.law12_LimboRuns : Nat := 7
abbrev Fn.law12_LimboPlays : Nat := 8
abbrev Fn.law12_LimboWaits : Nat := 9
abbrev Fn.law5_EpochRuns : Nat := 10
abbrev Fn.law5_EpochPassed : Nat := 11
abbrev Fn.law7_ReadsRuns : Nat := 12
abbrev Fn.law7_ReadsPlays : Nat := 13
abbrev Fn.law7_ReadsFull : Nat := 14
abbrev Fn.law7_ReadsStands : Nat := 15
abbrev Fn.law5_EpochPlays : Nat := 16
abbrev Fn.law5_EpochCopies : Nat := 17
abbrev Fn.heap_New : Nat := 18
abbrev Fn.heap_Heap_Store : Nat := 19
abbrev Fn.heap_Heap_Load : Nat := 20
abbrev Fn.heap_Heap_Len : Nat := 21
abbrev Fn.heap_Heap_All : Nat := 22
abbrev Fn.heap_Heap_Copy : Nat := 23
abbrev Fn.law2_do : Nat := 24
abbrev Fn.ref1_Held : Nat := 25
abbrev Fn.limbo_New : Nat := 26
abbrev Fn.limbo_Limbo_Add : Nat := 27
abbrev Fn.limbo_Limbo_Ripe : Nat := 28
abbrev Fn.limbo_Limbo_Len : Nat := 29
abbrev Fn.limbo_Limbo_All : Nat := 30
abbrev Fn.ref7_Ripe : Nat := 31
abbrev Fn.book_Same_api_Rest : Nat := 32
abbrev Fn.epoch_Passed : Nat := 33
abbrev Fn.epoch_New : Nat := 34
abbrev Fn.epoch_Slots_Store : Nat := 35
abbrev Fn.epoch_Slots_Least : Nat := 36
abbrev Fn.epoch_Slots_Passed : Nat := 37
abbrev Fn.epoch_Slots_Len : Nat := 38
abbrev Fn.epoch_Slots_All : Nat := 39
abbrev Fn.epoch_Slots_Copy : Nat := 40
abbrev Fn.reads_New : Nat := 41
abbrev Fn.reads_Reads_Add : Nat := 42
abbrev Fn.reads_Reads_Get : Nat := 43
abbrev Fn.reads_Reads_Len : Nat := 44
abbrev Fn.reads_Reads_All : Nat := 45
abbrev Fn.reads_Reads_Stands : Nat := 46
abbrev Fn.ref7_NewReads : Nat := 47
abbrev Fn.law7_near : Nat := 48
abbrev Fn.ref7_Reads_Add : Nat := 49
abbrev Fn.book_Same_api_Seen : Nat := 50
abbrev Fn.ref7_Stands : Nat := 51
abbrev Fn.law5_do : Nat := 52
abbrev Fn.book_Same_uint64 : Nat := 53
abbrev Fn.heap_Heap_is : Nat := 54
abbrev Fn.slices_Clone_uint64_uint64 : Nat := 55
abbrev Fn.slices_Clone_api_Rest_api_Rest : Nat := 56
abbrev Fn.ref1_Passed : Nat := 57
abbrev Fn.epoch_Slots_is : Nat := 58
abbrev Fn.slices_Clone_api_Seen_api_Seen : Nat := 59
abbrev Fn.book_Within : Nat := 60
abbrev Fn.epoch_Slots_Load : Nat := 61

/-- law2_HeapRuns -/
def S_law2_HeapRuns (K : KV) : World → Prop := fun w =>
 CP Try.prog Fn.heap_New [(Value.int .i64 40)] (fun x1 w =>
 eqNilW .eql x1 (Value.pointer none) (fun x2 w =>
 condP x2 (fun w => K (Value.bool false) w) (fun w => CP Try.prog Fn.heap_Heap_Store [x1, (Value.int .i64 39), (Value.int .u64 7)] (fun x3 w =>
 CP Try.prog Fn.heap_Heap_Load [x1, (Value.int .i64 39)] (fun x4 w =>
 extractW 0 x4 (fun x5 w =>
 extractW 1 x4 (fun x6 w =>
 CP Try.prog Fn.heap_Heap_Load [x1, (Value.int .i64 40)] (fun x7 w =>
 extractW 0 x7 (fun x8 w =>
 extractW 1 x7 (fun x9 w =>
 CP Try.prog Fn.heap_Heap_Load [x1, (Value.int .i64 0)] (fun x10 w =>
 extractW 0 x10 (fun x11 w =>
 extractW 1 x10 (fun x12 w =>
 binIntW .eql x3 (Value.int .i64 0) (fun x13 w =>
 gW x13 true (fun K w => K x6 w) (fun x14 w =>
 gW x13 true (fun K w => binIntW .eql x14 (Value.int .i64 0) K w) (fun x15 w =>
 pickW x13 x15 (Value.bool false) (fun x16 w =>
 gW x16 true (fun K w => K x5 w) (fun x17 w =>
 gW x16 true (fun K w => binIntW .eql x17 (Value.int .u64 7) K w) (fun x18 w =>
 pickW x16 x18 (Value.bool false) (fun x19 w =>
 gW x19 true (fun K w => K x9 w) (fun x20 w =>
 gW x19 true (fun K w => binIntW .eql x20 (Value.int .i64 2) K w) (fun x21 w =>
 pickW x19 x21 (Value.bool false) (fun x22 w =>
 gW x22 true (fun K w => K x12 w) (fun x23 w =>
 gW x22 true (fun K w => binIntW .eql x23 (Value.int .i64 2) K w) (fun x24 w =>
 pickW x22 x24 (Value.bool false) (fun x25 w =>
 gW x25 true (fun K w => K x1 w) (fun x26 w =>
 gW x25 true (fun K w => CP Try.prog Fn.heap_Heap_Len [x26] K w) (fun x27 w =>
 gW x25 true (fun K w => binIntW .eql x27 (Value.int .i64 40) K w) (fun x28 w =>
 pickW x25 x28 (Value.bool false) (fun x29 w =>
 gW x29 true (fun K w => K x1 w) (fun x30 w =>
 gW x29 true (fun K w => CP Try.prog Fn.heap_Heap_All [x30] K w) (fun x31 w =>
 gW x29 true (fun K w => lenW x31 K w) (fun x32 w =>
 gW x29 true (fun K w => binIntW .eql x32 (Value.int .i64 40) K w) (fun x33 w =>
 pickW x29 x33 (Value.bool false) (fun x34 w =>
 gW x34 true (fun K w => K x1 w) (fun x35 w =>
 gW x34 true (fun K w => CP Try.prog Fn.heap_Heap_Copy [x35] K w) (fun x36 w =>
 gW x34 true (fun K w => eqNilW .neq x36 (Value.pointer none) K w) (fun x37 w =>
 pickW x34 x37 (Value.bool false) (fun x38 w =>
 K x38 w) w) w) w) w) w) w) w) w) w) w) w) w) w) w) w) w) w) w) w) w) w) w) w) w) w) w) w) w) w) w) w) w) w) w) w) w) w) w) w

/-- law2_HeapPlays -/
def S_law2_HeapPlays (a0 a1 : Value) (K : KV) : World → Prop := fun w =>
 CP Try.prog Fn.law2_HeapRuns [] (fun x1 w =>
 notW x1 (fun x2 w =>
 condP x2 (fun w => K (Value.bool false) w) (fun w => CP Try.prog Fn.heap_New [a0] (fun x3 w =>
 eqNilW .neq x3 (Value.pointer none) (fun x4 w =>
 gW x4 true (fun K w => K x3 w) (fun x5 w =>
 gW x4 true (fun K w => K a0 w) (fun x6 w =>
 gW x4 true (fun K w => CP Try.prog Fn.ref1_Held [x6, (Value.int .i64 32), (Value.int .i64 256)] K w) (fun x7 w =>
 gW x4 true (fun K w => makeSliceW 8 [(Value.int .u64 0)] x7 x7 K w) (fun x8 w =>
 gW x4 true (fun K w => K a1 w) (fun x9 w =>
 gW x4 true (fun K w => CP Try.prog Fn.law2_do [x5, x8, x9] K w) (fun x10 w =>
 pickW x4 x10 (Value.bool false) (fun x11 w =>
 K x11 w) w) w) w) w) w) w) w) w) w) w) w) w

/-- law2_HeapCopies -/
def S_law2_HeapCopies (a0 a1 a2 a3 : Value) (K : KV) : World → Prop := fun w =>
 CP Try.prog Fn.law2_HeapRuns [] (fun x1 w =>
 notW x1 (fun x2 w =>
 condP x2 (fun w => K (Value.bool false) w) (fun w => CP Try.prog Fn.heap_New [a0] (fun x3 w =>
 eqNilW .eql x3 (Value.pointer none) (fun x4 w =>
 condP x4 (fun w => K (Value.bool false) w) (fun w => CP Try.prog Fn.ref1_Held [a0, (Value.int .i64 32), (Value.int .i64 256)] (fun x5 w =>
 makeSliceW 8 [(Value.int .u64 0)] x5 x5 (fun x6 w =>
 CP Try.prog Fn.law2_do [x3, x6, a1] (fun x7 w =>
 notW x7 (fun x8 w =>
 condP x8 (fun w => K (Value.bool false) w) (fun w => CP Try.prog Fn.heap_Heap_Copy [x3] (fun x9 w =>
 appendW 1 8 (Value.slice none 0 0) x6 (fun x10 w =>
 eqNilW .neq x9 (Value.pointer none) (fun x11 w =>
 gW x11 true (fun K w => K x9 w) (fun x12 w =>
 gW x11 true (fun K w => K x10 w) (fun x13 w =>
 gW x11 true (fun K w => K a2 w) (fun x14 w =>
 gW x11 true (fun K w => CP Try.prog Fn.law2_do [x12, x13, x14] K w) (fun x15 w =>
 pickW x11 x15 (Value.bool false) (fun x16 w =>
 gW x16 true (fun K w => K x3 w) (fun x17 w =>
 gW x16 true (fun K w => K x6 w) (fun x18 w =>
 gW x16 true (fun K w => K a3 w) (fun x19 w =>
 gW x16 true (fun K w => CP Try.prog Fn.law2_do [x17, x18, x19] K w) (fun x20 w =>
 pickW x16 x20 (Value.bool false) (fun x21 w =>
 gW x21 true (fun K w => K x9 w) (fun x22 w =>
 gW x21 true (fun K w => K x10 w) (fun x23 w =>
 gW x21 true (fun K w => CP Try.prog Fn.law2_do [x22, x23, (Value.slice none 0 0)] K w) (fun x24 w =>
 pickW x21 x24 (Value.bool false) (fun x25 w =>
 K x25 w) w) w) w) w) w) w) w) w) w) w) w) w) w) w) w) w) w) w) w) w) w) w) w) w) w) w) w) w

/-- law2_HeapAll -/
def S_law2_HeapAll (a0 a1 a2 : Value) (K : KV) : World → Prop := fun w =>
 CP Try.prog Fn.law2_HeapRuns [] (fun x1 w =>
 notW x1 (fun x2 w =>
 condP x2 (fun w => K (Value.bool false) w) (fun w => CP Try.prog Fn.heap_New [a0] (fun x3 w =>
 eqNilW .eql x3 (Value.pointer none) (fun x4 w =>
 condP x4 (fun w => K (Value.bool false) w) (fun w => CP Try.prog Fn.ref1_Held [a0, (Value.int .i64 32), (Value.int .i64 256)] (fun x5 w =>
 makeSliceW 8 [(Value.int .u64 0)] x5 x5 (fun x6 w =>
 CP Try.prog Fn.law2_do [x3, x6, a1] (fun x7 w =>
 notW x7 (fun x8 w =>
 condP x8 (fun w => K (Value.bool false) w) (fun w => CP Try.prog Fn.heap_Heap_All [x3] (fun x9 w =>
 lenW x9 (fun x10 w =>
 lenW x6 (fun x11 w =>
 binIntW .neq x10 x11 (fun x12 w =>
 condP x12 (fun w => K (Value.bool false) w) (fun w => lenW x6 (fun x13 w =>
 binIntW .sub x13 (Value.int .i64 1) (fun x14 w =>
 CP Try.prog Fn.ref1_Held [a2, (Value.int .i64 0), x14] (fun x15 w =>
 idxW 1 x9 x15 (fun x16 w =>
 load1W x16 (fun x17 w =>
 binIntW .add x17 (Value.int .u64 1) (fun x18 w =>
 idxW 1 x9 x15 (fun x19 w =>
 storeW 1 x19 x18 (fun _ w =>
 CP Try.prog Fn.law2_do [x3, x6, (Value.slice none 0 0)] (fun x21 w =>
 K x21 w) w) w) w) w) w) w) w) w) w) w) w) w) w) w) w) w) w) w) w) w) w) w) w) w) w

/-- law12_LimboRuns -/
def S_law12_LimboRuns (K : KV) : World → Prop := fun w =>
 CP Try.prog Fn.limbo_New [] (fun x1 w =>
 eqNilW .eql x1 (Value.pointer none) (fun x2 w =>
 condP x2 (fun w => K (Value.bool false) w) (fun w => buildSliceW [(Value.int .i64 0)] 1 [(0, 1, (Value.int .i64 15))] (fun x3 w =>
 CP Try.prog Fn.limbo_Limbo_Add [x1, (Value.int .u64 7), x3] (fun x4 w =>
 buildSliceW [(Value.int .i64 0)] 2 [(0, 1, (Value.int .i64 20)), (1, 1, (Value.int .i64 25))] (fun x5 w =>
 CP Try.prog Fn.limbo_Limbo_Add [x1, (Value.int .u64 9), x5] (fun x6 w =>
 buildSliceW [(Value.int .u64 0)] 2 [(0, 1, (Value.int .u64 8)), (1, 1, (Value.int .u64 0))] (fun x7 w =>
 CP Try.prog Fn.limbo_Limbo_Ripe [x1, x7] (fun x8 w =>
 lenW x8 (fun x9 w =>
 binIntW .eql x9 (Value.int .i64 1) (fun x10 w =>
 gW x10 true (fun K w => K x8 w) (fun x11 w =>
 gW x10 true (fun K w => idxW 2 x11 (Value.int .i64 0) K w) (fun x12 w =>
 gW x10 true (fun K w => loadNW 2 x12 K w) (fun x13 w =>
 gW x10 true (fun K w => buildW [(Value.int .i64 0), (Value.int .u64 0)] [(0, 1, (Value.int .i64 15)), (1, 1, (Value.int .u64 7))] K w) (fun x14 w =>
 gW x10 true (fun K w => eqAggW [.i .i64, .i .u64] .eql x13 x14 K w) (fun x15 w =>
 pickW x10 x15 (Value.bool false) (fun x16 w =>
 gW x16 true (fun K w => K x1 w) (fun x17 w =>
 gW x16 true (fun K w => CP Try.prog Fn.limbo_Limbo_Len [x17] K w) (fun x18 w =>
 gW x16 true (fun K w => binIntW .eql x18 (Value.int .i64 2) K w) (fun x19 w =>
 pickW x16 x19 (Value.bool false) (fun x20 w =>
 gW x20 true (fun K w => K x1 w) (fun x21 w =>
 gW x20 true (fun K w => CP Try.prog Fn.limbo_Limbo_All [x21] K w) (fun x22 w =>
 gW x20 true (fun K w => lenW x22 K w) (fun x23 w =>
 gW x20 true (fun K w => binIntW .eql x23 (Value.int .i64 2) K w) (fun x24 w =>
 pickW x20 x24 (Value.bool false) (fun x25 w =>
 K x25 w) w) w) w) w) w) w) w) w) w) w) w) w) w) w) w) w) w) w) w) w) w) w) w) w) w) w

/-- law12_LimboPlays -/
def S_law12_LimboPlays (a0 : Value) (K : KV) : World → Prop := fun w =>
 CP Try.prog Fn.law12_LimboRuns [] (fun x1 w =>
 notW x1 (fun x2 w =>
 condP x2 (fun w => K (Value.bool false) w) (fun w => CP Try.prog Fn.limbo_New [] (fun x3 w =>
 eqNilW .eql x3 (Value.pointer none) (fun x4 w =>
 condP x4 (fun w => K (Value.bool false) w) (fun w => loopW2 (Value.slice none 0 0) (Value.int .i64 0) (fun J10 x5 x6 w =>
 lenW a0 (fun x7 w =>
 binIntW .lss x6 x7 (fun x8 w =>
 gW x8 true (fun K w => K x6 w) (fun x9 w =>
 gW x8 true (fun K w => binIntW .lss x9 (Value.int .i64 40) K w) (fun x10 w =>
 pickW x8 x10 (Value.bool false) (fun x11 w =>
 condP x11 (fun w => idxW 4 a0 x6 (fun x12 w =>
 loadNW 4 x12 (fun x13 w =>
 newW #[(Value.bool false), (Value.int .u64 0), (Value.slice none 0 0), (Value.slice none 0 0)] (fun x14 w =>
 storeW 4 x14 x13 (fun _ w =>
 addW 2 x14 (fun x16 w =>
 load1W x16 (fun x17 w =>
 lenW x17 (fun x18 w =>
 binIntW .gtr x18 (Value.int .i64 30) (fun x19 w =>
 gW x19 false (fun K w => addW 3 x14 K w) (fun x20 w =>
 gW x19 false (fun K w => load1W x20 K w) (fun x21 w =>
 gW x19 false (fun K w => lenW x21 K w) (fun x22 w =>
 gW x19 false (fun K w => binIntW .gtr x22 (Value.int .i64 30) K w) (fun x23 w =>
 pickW x19 (Value.bool true) x23 (fun x24 w =>
 condP x24 (fun w => K (Value.bool true) w) (fun w => addW 0 x14 (fun x25 w =>
 load1W x25 (fun x26 w =>
 joinW1 (fun x27 w =>
 CP Try.prog Fn.limbo_Limbo_All [x3] (fun x28 w =>
 CP Try.prog Fn.book_Same_api_Rest [x28, x27] (fun x29 w =>
 notW x29 (fun x30 w =>
 gW x30 false (fun K w => K x3 w) (fun x31 w =>
 gW x30 false (fun K w => CP Try.prog Fn.limbo_Limbo_Len [x31] K w) (fun x32 w =>
 gW x30 false (fun K w => K x27 w) (fun x33 w =>
 gW x30 false (fun K w => lenW x33 K w) (fun x34 w =>
 gW x30 false (fun K w => binIntW .neq x32 x34 K w) (fun x35 w =>
 pickW x30 (Value.bool true) x35 (fun x36 w =>
 condP x36 (fun w => K (Value.bool false) w) (fun w => binIntW .add x6 (Value.int .i64 1) (fun x37 w =>
 J10 x27 x37 w) w) w) w) w) w) w) w) w) w) w) w) (fun j1 w =>
 condP x26 (fun w => addW 3 x14 (fun x38 w =>
 load1W x38 (fun x39 w =>
 CP Try.prog Fn.ref7_Ripe [x5, x39] (fun x40 w =>
 extractW 0 x40 (fun x41 w =>
 extractW 1 x40 (fun x42 w =>
 addW 3 x14 (fun x43 w =>
 load1W x43 (fun x44 w =>
 CP Try.prog Fn.limbo_Limbo_Ripe [x3, x44] (fun x45 w =>
 CP Try.prog Fn.book_Same_api_Rest [x45, x41] (fun x46 w =>
 notW x46 (fun x47 w =>
 condP x47 (fun w => K (Value.bool false) w) (fun w => j1 x42 w) w) w) w) w) w) w) w) w) w) w) w) (fun w => addW 1 x14 (fun x48 w =>
 load1W x48 (fun x49 w =>
 addW 2 x14 (fun x50 w =>
 load1W x50 (fun x51 w =>
 CP Try.prog Fn.limbo_Limbo_Add [x3, x49, x51] (fun x52 w =>
 loopW2 x5 (Value.int .i64 0) (fun J18 x53 x54 w =>
 addW 2 x14 (fun x55 w =>
 load1W x55 (fun x56 w =>
 lenW x56 (fun x57 w =>
 binIntW .lss x54 x57 (fun x58 w =>
 condP x58 (fun w => drewW (fun w => addW 2 x14 (fun x59 w =>
 load1W x59 (fun x60 w =>
 idxW 1 x60 x54 (fun x61 w =>
 load1W x61 (fun x62 w =>
 addW 1 x14 (fun x63 w =>
 load1W x63 (fun x64 w =>
 buildW [(Value.int .i64 0), (Value.int .u64 0)] [(0, 1, x62), (1, 1, x64)] (fun x65 w =>
 buildSliceW [(Value.int .i64 0), (Value.int .u64 0)] 1 [(0, 2, x65)] (fun x66 w =>
 andP (fun w => andP (fun w => trueP w) (fun w => andP (fun w => trueP w) (fun w => andP (fun w => trueP w) (fun w => trueP w) w) w) w) (fun w =>
 appendW 2 16 x53 x66 (fun x67 w =>
 andP (fun w => trueP w) (fun w =>
 binIntW .add x54 (Value.int .i64 1) (fun x68 w =>
 J18 x67 x68 w) w) w) w) w) w) w) w) w) w) w) w) w) w) (fun w => j1 x53 w) w) w) w) w) w) w) w) w) w) w) w) w) w) w) w) w) w) w) w) w) w) w) w) w) w) w) w) w) w) (fun w => K (Value.bool true) w) w) w) w) w) w) w) w) w) w) w) w) w) w

/-- law12_LimboWaits -/
def S_law12_LimboWaits (a0 a1 a2 : Value) (K : KV) : World → Prop := fun w =>
 CP Try.prog Fn.law12_LimboRuns [] (fun x1 w =>
 notW x1 (fun x2 w =>
 condP x2 (fun w => K (Value.bool false) w) (fun w => lenW a0 (fun x3 w =>
 binIntW .gtr x3 (Value.int .i64 40) (fun x4 w =>
 gW x4 false (fun K w => K a1 w) (fun x5 w =>
 gW x4 false (fun K w => lenW x5 K w) (fun x6 w =>
 gW x4 false (fun K w => binIntW .gtr x6 (Value.int .i64 4) K w) (fun x7 w =>
 pickW x4 (Value.bool true) x7 (fun x8 w =>
 condP x8 (fun w => K (Value.bool true) w) (fun w => CP Try.prog Fn.limbo_New [] (fun x9 w =>
 eqNilW .eql x9 (Value.pointer none) (fun x10 w =>
 condP x10 (fun w => K (Value.bool false) w) (fun w => loopW1 (Value.int .i64 0) (fun J2 x11 w =>
 lenW a0 (fun x12 w =>
 binIntW .lss x11 x12 (fun x13 w =>
 condP x13 (fun w => idxW 1 a0 x11 (fun x14 w =>
 load1W x14 (fun x15 w =>
 binIntW .rem x15 (Value.int .u8 16) (fun x16 w =>
 convW .u64 x16 (fun x17 w =>
 buildSliceW [(Value.int .i64 0)] 1 [(0, 1, x11)] (fun x18 w =>
 CP Try.prog Fn.limbo_Limbo_Add [x9, x17, x18] (fun x19 w =>
 binIntW .add x11 (Value.int .i64 1) (fun x20 w =>
 J2 x20 w) w) w) w) w) w) w) w) (fun w => loopW2 (Value.slice none 0 0) (Value.int .i64 0) (fun J4 x21 x22 w =>
 lenW a1 (fun x23 w =>
 binIntW .lss x22 x23 (fun x24 w =>
 condP x24 (fun w => idxW 1 a1 x22 (fun x25 w =>
 load1W x25 (fun x26 w =>
 binIntW .rem x26 (Value.int .u8 18) (fun x27 w =>
 convW .u64 x27 (fun x28 w =>
 buildSliceW [(Value.int .u64 0)] 1 [(0, 1, x28)] (fun x29 w =>
 appendW 1 8 x21 x29 (fun x30 w =>
 binIntW .add x22 (Value.int .i64 1) (fun x31 w =>
 J4 x30 x31 w) w) w) w) w) w) w) w) (fun w => CP Try.prog Fn.limbo_Limbo_Ripe [x9, x21] (fun x32 w =>
 loopW1 (Value.int .i64 0) (fun J6 x33 w =>
 lenW x32 (fun x34 w =>
 binIntW .lss x33 x34 (fun x35 w =>
 condP x35 (fun w => drewW (fun w => idxW 2 x32 x33 (fun x36 w =>
 addW 1 x36 (fun x37 w =>
 load1W x37 (fun x38 w =>
 CP Try.prog Fn.epoch_Passed [x21, x38] (fun x39 w =>
 andP (fun w => andP (fun w => trueP w) (fun w => trueP w) w) (fun w =>
 notW x39 (fun x40 w =>
 gW x40 false (fun K w => K x32 w) (fun x41 w =>
 gW x40 false (fun K w => K x33 w) (fun x42 w =>
 gW x40 false (fun K w => idxW 2 x41 x42 K w) (fun x43 w =>
 gW x40 false (fun K w => addW 0 x43 K w) (fun x44 w =>
 gW x40 false (fun K w => load1W x44 K w) (fun x45 w =>
 gW x40 false (fun K w => binIntW .lss x45 (Value.int .i64 0) K w) (fun x46 w =>
 pickW x40 (Value.bool true) x46 (fun x47 w =>
 gW x47 false (fun K w => K x32 w) (fun x48 w =>
 gW x47 false (fun K w => K x33 w) (fun x49 w =>
 gW x47 false (fun K w => idxW 2 x48 x49 K w) (fun x50 w =>
 gW x47 false (fun K w => addW 0 x50 K w) (fun x51 w =>
 gW x47 false (fun K w => load1W x51 K w) (fun x52 w =>
 gW x47 false (fun K w => K a0 w) (fun x53 w =>
 gW x47 false (fun K w => lenW x53 K w) (fun x54 w =>
 gW x47 false (fun K w => binIntW .geq x52 x54 K w) (fun x55 w =>
 pickW x47 (Value.bool true) x55 (fun x56 w =>
 gW x56 false (fun K w => K a0 w) (fun x57 w =>
 gW x56 false (fun K w => K x32 w) (fun x58 w =>
 gW x56 false (fun K w => K x33 w) (fun x59 w =>
 gW x56 false (fun K w => idxW 2 x58 x59 K w) (fun x60 w =>
 gW x56 false (fun K w => addW 0 x60 K w) (fun x61 w =>
 gW x56 false (fun K w => load1W x61 K w) (fun x62 w =>
 gW x56 false (fun K w => idxW 1 x57 x62 K w) (fun x63 w =>
 gW x56 false (fun K w => load1W x63 K w) (fun x64 w =>
 gW x56 false (fun K w => binIntW .rem x64 (Value.int .u8 16) K w) (fun x65 w =>
 gW x56 false (fun K w => convW .u64 x65 K w) (fun x66 w =>
 gW x56 false (fun K w => K x32 w) (fun x67 w =>
 gW x56 false (fun K w => K x33 w) (fun x68 w =>
 gW x56 false (fun K w => idxW 2 x67 x68 K w) (fun x69 w =>
 gW x56 false (fun K w => addW 1 x69 K w) (fun x70 w =>
 gW x56 false (fun K w => load1W x70 K w) (fun x71 w =>
 gW x56 false (fun K w => binIntW .neq x66 x71 K w) (fun x72 w =>
 pickW x56 (Value.bool true) x72 (fun x73 w =>
 gW x73 false (fun K w => K x33 w) (fun x74 w =>
 gW x73 false (fun K w => binIntW .gtr x74 (Value.int .i64 0) K w) (fun x75 w =>
 gW x73 false (fun K w => K x75 w) (fun x76 w =>
 gW x76 true (fun K w => K x32 w) (fun x77 w =>
 gW x76 true (fun K w => K x33 w) (fun x78 w =>
 gW x76 true (fun K w => idxW 2 x77 x78 K w) (fun x79 w =>
 gW x76 true (fun K w => addW 0 x79 K w) (fun x80 w =>
 gW x76 true (fun K w => load1W x80 K w) (fun x81 w =>
 gW x76 true (fun K w => K x32 w) (fun x82 w =>
 gW x76 true (fun K w => K x33 w) (fun x83 w =>
 gW x76 true (fun K w => binIntW .sub x83 (Value.int .i64 1) K w) (fun x84 w =>
 gW x76 true (fun K w => idxW 2 x82 x84 K w) (fun x85 w =>
 gW x76 true (fun K w => addW 0 x85 K w) (fun x86 w =>
 gW x76 true (fun K w => load1W x86 K w) (fun x87 w =>
 gW x76 true (fun K w => binIntW .leq x81 x87 K w) (fun x88 w =>
 gW x73 false (fun K w => pickW x76 x88 (Value.bool false) K w) (fun x89 w =>
 pickW x73 (Value.bool true) x89 (fun x90 w =>
 condP x90 (fun w => K (Value.bool false) w) (fun w => binIntW .add x33 (Value.int .i64 1) (fun x91 w =>
 J6 x91 w) w) w) w) w) w) w) w) w) w) w) w) w) w) w) w) w) w) w) w) w) w) w) w) w) w) w) w) w) w) w) w) w) w) w) w) w) w) w) w) w) w) w) w) w) w) w) w) w) w) w) w) w) w) w) w) w) w) w) w) (fun w => CP Try.prog Fn.limbo_Limbo_All [x9] (fun x92 w =>
 loopW1 (Value.int .i64 0) (fun J8 x93 w =>
 lenW x92 (fun x94 w =>
 binIntW .lss x93 x94 (fun x95 w =>
 condP x95 (fun w => idxW 2 x92 x93 (fun x96 w =>
 addW 1 x96 (fun x97 w =>
 load1W x97 (fun x98 w =>
 CP Try.prog Fn.epoch_Passed [x21, x98] (fun x99 w =>
 condP x99 (fun w => K (Value.bool false) w) (fun w => binIntW .add x93 (Value.int .i64 1) (fun x100 w =>
 J8 x100 w) w) w) w) w) w) w) (fun w => lenW x32 (fun x101 w =>
 lenW x92 (fun x102 w =>
 binIntW .add x101 x102 (fun x103 w =>
 lenW a0 (fun x104 w =>
 binIntW .neq x103 x104 (fun x105 w =>
 gW x105 false (fun K w => K x9 w) (fun x106 w =>
 gW x105 false (fun K w => K x21 w) (fun x107 w =>
 gW x105 false (fun K w => CP Try.prog Fn.limbo_Limbo_Ripe [x106, x107] K w) (fun x108 w =>
 gW x105 false (fun K w => lenW x108 K w) (fun x109 w =>
 gW x105 false (fun K w => binIntW .neq x109 (Value.int .i64 0) K w) (fun x110 w =>
 pickW x105 (Value.bool true) x110 (fun x111 w =>
 condP x111 (fun w => K (Value.bool false) w) (fun w => convW .u64 a2 (fun x112 w =>
 binIntW .add (Value.int .u64 20) x112 (fun x113 w =>
 buildSliceW [(Value.int .u64 0)] 2 [(0, 1, (Value.int .u64 0)), (1, 1, x113)] (fun x114 w =>
 CP Try.prog Fn.limbo_Limbo_Ripe [x9, x114] (fun x115 w =>
 CP Try.prog Fn.book_Same_api_Rest [x115, x92] (fun x116 w =>
 gW x116 true (fun K w => K x9 w) (fun x117 w =>
 gW x116 true (fun K w => CP Try.prog Fn.limbo_Limbo_Len [x117] K w) (fun x118 w =>
 gW x116 true (fun K w => binIntW .eql x118 (Value.int .i64 0) K w) (fun x119 w =>
 pickW x116 x119 (Value.bool false) (fun x120 w =>
 K x120 w) w) w) w) w) w) w) w) w) w) w) w) w) w) w) w) w) w) w) w) w) w) w) w) w) w) w) w) w) w) w) w) w) w) w) w) w) w) w) w) w) w) w) w) w) w) w) w) w) w) w) w) w

/-- law5_EpochRuns -/
def S_law5_EpochRuns (K : KV) : World → Prop := fun w =>
 CP Try.prog Fn.epoch_New [(Value.int .i64 2)] (fun x1 w =>
 eqNilW .eql x1 (Value.pointer none) (fun x2 w =>
 condP x2 (fun w => K (Value.bool false) w) (fun w => CP Try.prog Fn.epoch_Slots_Store [x1, (Value.int .i64 0), (Value.int .u64 7)] (fun x3 w =>
 CP Try.prog Fn.epoch_Slots_Least [x1] (fun x4 w =>
 extractW 0 x4 (fun x5 w =>
 extractW 1 x4 (fun x6 w =>
 binIntW .eql x3 (Value.int .i64 0) (fun x7 w =>
 gW x7 true (fun K w => K x6 w) (fun x8 w =>
 pickW x7 x8 (Value.bool false) (fun x9 w =>
 gW x9 true (fun K w => K x5 w) (fun x10 w =>
 gW x9 true (fun K w => binIntW .eql x10 (Value.int .u64 7) K w) (fun x11 w =>
 pickW x9 x11 (Value.bool false) (fun x12 w =>
 gW x12 true (fun K w => K x1 w) (fun x13 w =>
 gW x12 true (fun K w => CP Try.prog Fn.epoch_Slots_Passed [x13, (Value.int .u64 6)] K w) (fun x14 w =>
 pickW x12 x14 (Value.bool false) (fun x15 w =>
 gW x15 true (fun K w => K x1 w) (fun x16 w =>
 gW x15 true (fun K w => CP Try.prog Fn.epoch_Slots_Passed [x16, (Value.int .u64 7)] K w) (fun x17 w =>
 gW x15 true (fun K w => notW x17 K w) (fun x18 w =>
 pickW x15 x18 (Value.bool false) (fun x19 w =>
 gW x19 true (fun K w => K x1 w) (fun x20 w =>
 gW x19 true (fun K w => CP Try.prog Fn.epoch_Slots_Len [x20] K w) (fun x21 w =>
 gW x19 true (fun K w => binIntW .eql x21 (Value.int .i64 2) K w) (fun x22 w =>
 pickW x19 x22 (Value.bool false) (fun x23 w =>
 gW x23 true (fun K w => K x1 w) (fun x24 w =>
 gW x23 true (fun K w => CP Try.prog Fn.epoch_Slots_All [x24] K w) (fun x25 w =>
 gW x23 true (fun K w => lenW x25 K w) (fun x26 w =>
 gW x23 true (fun K w => binIntW .eql x26 (Value.int .i64 2) K w) (fun x27 w =>
 pickW x23 x27 (Value.bool false) (fun x28 w =>
 gW x28 true (fun K w => K x1 w) (fun x29 w =>
 gW x28 true (fun K w => CP Try.prog Fn.epoch_Slots_Copy [x29] K w) (fun x30 w =>
 gW x28 true (fun K w => eqNilW .neq x30 (Value.pointer none) K w) (fun x31 w =>
 pickW x28 x31 (Value.bool false) (fun x32 w =>
 gW x32 true (fun K w => CP Try.prog Fn.epoch_Passed [(Value.slice none 0 0), (Value.int .u64 5)] K w) (fun x33 w =>
 pickW x32 x33 (Value.bool false) (fun x34 w =>
 K x34 w) w) w) w) w) w) w) w) w) w) w) w) w) w) w) w) w) w) w) w) w) w) w) w) w) w) w) w) w) w) w) w) w) w) w) w

/-- law5_EpochPassed -/
def S_law5_EpochPassed (a0 a1 a2 : Value) (K : KV) : World → Prop := fun w =>
 CP Try.prog Fn.law5_EpochRuns [] (fun x1 w =>
 notW x1 (fun x2 w =>
 condP x2 (fun w => K (Value.bool false) w) (fun w => lenW a0 (fun x3 w =>
 binIntW .gtr x3 (Value.int .i64 1000) (fun x4 w =>
 condP x4 (fun w => K (Value.bool true) w) (fun w => CP Try.prog Fn.epoch_Passed [a0, a1] (fun x5 w =>
 CP Try.prog Fn.epoch_Passed [a0, a2] (fun x6 w =>
 loopW2 (Value.bool false) (Value.int .i64 0) (fun J2 x7 x8 w =>
 lenW a0 (fun x9 w =>
 binIntW .lss x8 x9 (fun x10 w =>
 condP x10 (fun w => gW x7 false (fun K w => K a0 w) (fun x11 w =>
 gW x7 false (fun K w => K x8 w) (fun x12 w =>
 gW x7 false (fun K w => idxW 1 x11 x12 K w) (fun x13 w =>
 gW x7 false (fun K w => load1W x13 K w) (fun x14 w =>
 gW x7 false (fun K w => binIntW .neq x14 (Value.int .u64 0) K w) (fun x15 w =>
 gW x7 false (fun K w => K x15 w) (fun x16 w =>
 gW x16 true (fun K w => K a0 w) (fun x17 w =>
 gW x16 true (fun K w => K x8 w) (fun x18 w =>
 gW x16 true (fun K w => idxW 1 x17 x18 K w) (fun x19 w =>
 gW x16 true (fun K w => load1W x19 K w) (fun x20 w =>
 gW x16 true (fun K w => K a1 w) (fun x21 w =>
 gW x16 true (fun K w => binIntW .leq x20 x21 K w) (fun x22 w =>
 gW x7 false (fun K w => pickW x16 x22 (Value.bool false) K w) (fun x23 w =>
 pickW x7 (Value.bool true) x23 (fun x24 w =>
 binIntW .add x8 (Value.int .i64 1) (fun x25 w =>
 J2 x24 x25 w) w) w) w) w) w) w) w) w) w) w) w) w) w) w) w) (fun w => notW x7 (fun x26 w =>
 binBoolW .eql x5 x26 (fun x27 w =>
 gW x27 true (fun K w => K a1 w) (fun x28 w =>
 gW x27 true (fun K w => K a2 w) (fun x29 w =>
 gW x27 true (fun K w => binIntW .gtr x28 x29 K w) (fun x30 w =>
 gW x27 true (fun K w => K x30 w) (fun x31 w =>
 gW x31 false (fun K w => K x6 w) (fun x32 w =>
 gW x31 false (fun K w => notW x32 K w) (fun x33 w =>
 gW x27 true (fun K w => pickW x31 (Value.bool true) x33 K w) (fun x34 w =>
 gW x27 true (fun K w => K x34 w) (fun x35 w =>
 gW x35 false (fun K w => K x5 w) (fun x36 w =>
 gW x27 true (fun K w => pickW x35 (Value.bool true) x36 K w) (fun x37 w =>
 pickW x27 x37 (Value.bool false) (fun x38 w =>
 gW x38 true (fun K w => K a1 w) (fun x39 w =>
 gW x38 true (fun K w => CP Try.prog Fn.epoch_Passed [(Value.slice none 0 0), x39] K w) (fun x40 w =>
 pickW x38 x40 (Value.bool false) (fun x41 w =>
 K x41 w) w) w) w) w) w) w) w) w) w) w) w) w) w) w) w) w) w) w) w) w) w) w) w) w) w) w) w) w

/-- law7_ReadsRuns -/
def S_law7_ReadsRuns (K : KV) : World → Prop := fun w =>
 CP Try.prog Fn.reads_New [(Value.int .i64 4)] (fun x1 w =>
 eqNilW .eql x1 (Value.pointer none) (fun x2 w =>
 condP x2 (fun w => K (Value.bool false) w) (fun w => buildW [(Value.int .i64 0), (Value.int .u64 0)] [(0, 1, (Value.int .i64 3)), (1, 1, (Value.int .u64 5))] (fun x3 w =>
 CP Try.prog Fn.reads_Reads_Add [x1, x3] (fun x4 w =>
 buildW [(Value.int .i64 0), (Value.int .u64 0)] [(0, 1, (Value.int .i64 3)), (1, 1, (Value.int .u64 5))] (fun x5 w =>
 CP Try.prog Fn.reads_Reads_Add [x1, x5] (fun x6 w =>
 buildW [(Value.int .i64 0), (Value.int .u64 0)] [(0, 1, (Value.int .i64 3)), (1, 1, (Value.int .u64 6))] (fun x7 w =>
 CP Try.prog Fn.reads_Reads_Add [x1, x7] (fun x8 w =>
 CP Try.prog Fn.reads_Reads_Get [x1, (Value.int .i64 3)] (fun x9 w =>
 extractW 0 x9 (fun x10 w =>
 extractW 1 x9 (fun x11 w =>
 binIntW .eql x4 (Value.int .i64 0) (fun x12 w =>
 gW x12 true (fun K w => K x6 w) (fun x13 w =>
 gW x12 true (fun K w => binIntW .eql x13 (Value.int .i64 0) K w) (fun x14 w =>
 pickW x12 x14 (Value.bool false) (fun x15 w =>
 gW x15 true (fun K w => K x8 w) (fun x16 w =>
 gW x15 true (fun K w => binIntW .eql x16 (Value.int .i64 14) K w) (fun x17 w =>
 pickW x15 x17 (Value.bool false) (fun x18 w =>
 gW x18 true (fun K w => K x11 w) (fun x19 w =>
 pickW x18 x19 (Value.bool false) (fun x20 w =>
 gW x20 true (fun K w => K x10 w) (fun x21 w =>
 gW x20 true (fun K w => binIntW .eql x21 (Value.int .u64 5) K w) (fun x22 w =>
 pickW x20 x22 (Value.bool false) (fun x23 w =>
 gW x23 true (fun K w => K x1 w) (fun x24 w =>
 gW x23 true (fun K w => CP Try.prog Fn.reads_Reads_Len [x24] K w) (fun x25 w =>
 gW x23 true (fun K w => binIntW .eql x25 (Value.int .i64 1) K w) (fun x26 w =>
 pickW x23 x26 (Value.bool false) (fun x27 w =>
 gW x27 true (fun K w => K x1 w) (fun x28 w =>
 gW x27 true (fun K w => CP Try.prog Fn.reads_Reads_All [x28] K w) (fun x29 w =>
 gW x27 true (fun K w => lenW x29 K w) (fun x30 w =>
 gW x27 true (fun K w => binIntW .eql x30 (Value.int .i64 1) K w) (fun x31 w =>
 pickW x27 x31 (Value.bool false) (fun x32 w =>
 gW x32 true (fun K w => K x1 w) (fun x33 w =>
 gW x32 true (fun K w => CP Try.prog Fn.reads_Reads_Stands [x33, (Value.slice none 0 0)] K w) (fun x34 w =>
 gW x32 true (fun K w => notW x34 K w) (fun x35 w =>
 pickW x32 x35 (Value.bool false) (fun x36 w =>
 K x36 w) w) w) w) w) w) w) w) w) w) w) w) w) w) w) w) w) w) w) w) w) w) w) w) w) w) w) w) w) w) w) w) w) w) w) w) w) w

/-- law7_ReadsPlays -/
def S_law7_ReadsPlays (a0 a1 a2 a3 : Value) (K : KV) : World → Prop := fun w =>
 CP Try.prog Fn.law7_ReadsRuns [] (fun x1 w =>
 notW x1 (fun x2 w =>
 condP x2 (fun w => K (Value.bool false) w) (fun w => CP Try.prog Fn.reads_New [a0] (fun x3 w =>
 CP Try.prog Fn.ref7_NewReads [a0] (fun x4 w =>
 eqNilW .eql x3 (Value.pointer none) (fun x5 w =>
 condP x5 (fun w => K (Value.bool false) w) (fun w => appendW 3 24 (Value.slice none 0 0) a2 (fun x6 w =>
 lenW x6 (fun x7 w =>
 binIntW .gtr x7 (Value.int .i64 40) (fun x8 w =>
 condP x8 (fun w => K (Value.bool true) w) (fun w => loopW2 x6 (Value.int .i64 0) (fun J2 x9 x10 w =>
 lenW a3 (fun x11 w =>
 binIntW .lss x10 x11 (fun x12 w =>
 gW x12 true (fun K w => K x10 w) (fun x13 w =>
 gW x12 true (fun K w => binIntW .lss x13 (Value.int .i64 16) K w) (fun x14 w =>
 pickW x12 x14 (Value.bool false) (fun x15 w =>
 condP x15 (fun w => lenW x9 (fun x16 w =>
 binIntW .geq x10 x16 (fun x17 w =>
 joinW1 (fun x18 w =>
 idxW 1 a3 x10 (fun x19 w =>
 load1W x19 (fun x20 w =>
 binIntW .rem x20 (Value.int .u64 3) (fun x21 w =>
 buildW [(Value.int .u64 0), (Value.bool false), (Value.int .i64 0)] [(0, 1, x21)] (fun x22 w =>
 idxW 3 x18 x10 (fun x23 w =>
 storeW 3 x23 x22 (fun _ w =>
 binIntW .add x10 (Value.int .i64 1) (fun x25 w =>
 J2 x18 x25 w) w) w) w) w) w) w) w) (fun j1 w =>
 condP x17 (fun w => buildW [(Value.int .u64 0), (Value.bool false), (Value.int .i64 0)] [] (fun x26 w =>
 buildSliceW [(Value.int .u64 0), (Value.bool false), (Value.int .i64 0)] 1 [(0, 3, x26)] (fun x27 w =>
 appendW 3 24 x9 x27 (fun x28 w =>
 j1 x28 w) w) w) w) (fun w => j1 x9 w) w) w) w) w) (fun w => loopW1 (Value.int .i64 0) (fun J8 x29 w =>
 lenW a1 (fun x30 w =>
 binIntW .lss x29 x30 (fun x31 w =>
 gW x31 true (fun K w => K x29 w) (fun x32 w =>
 gW x31 true (fun K w => binIntW .lss x32 (Value.int .i64 60) K w) (fun x33 w =>
 pickW x31 x33 (Value.bool false) (fun x34 w =>
 condP x34 (fun w => idxW 2 a1 x29 (fun x35 w =>
 loadNW 2 x35 (fun x36 w =>
 CP Try.prog Fn.law7_near [x36, x29] (fun x37 w =>
 newW #[(Value.int .i64 0), (Value.int .u64 0)] (fun x38 w =>
 storeW 2 x38 x37 (fun _ w =>
 drewW (fun w => loadNW 2 x38 (fun x40 w =>
 loadNW 2 x38 (fun x41 w =>
 CP Try.prog Fn.reads_Reads_Add [x3, x40] (fun x42 w =>
 andP (fun w => andP (fun w => loadNW 2 x38 (fun v w => eqP v x41 w) w) (fun w => andP (fun w => trueP w) (fun w => trueP w) w) w) (fun w =>
 CP Try.prog Fn.ref7_Reads_Add [x4, x41] (fun x43 w =>
 andP (fun w => andP (fun w => trueP w) (fun w => trueP w) w) (fun w =>
 binIntW .neq x42 x43 (fun x44 w =>
 gW x44 false (fun K w => K x3 w) (fun x45 w =>
 gW x44 false (fun K w => K x4 w) (fun x46 w =>
 gW x44 false (fun K w => nilW x46 K w) (fun x47 w =>
 gW x44 false (fun K w => addW 1 x47 K w) (fun x48 w =>
 gW x44 false (fun K w => load1W x48 K w) (fun x49 w =>
 gW x44 false (fun K w => CP Try.prog Fn.reads_Reads_All [x45] K w) (fun x50 w =>
 andP (fun w => andP (fun w => gW x44 false (fun K w => load1W x48 K w) (fun v w => eqP v x49 w) w) (fun w => trueP w) w) (fun w =>
 gW x44 false (fun K w => CP Try.prog Fn.book_Same_api_Seen [x50, x49] K w) (fun x51 w =>
 andP (fun w => andP (fun w => trueP w) (fun w => trueP w) w) (fun w =>
 gW x44 false (fun K w => notW x51 K w) (fun x52 w =>
 pickW x44 (Value.bool true) x52 (fun x53 w =>
 gW x53 false (fun K w => K x3 w) (fun x54 w =>
 gW x53 false (fun K w => K x4 w) (fun x55 w =>
 gW x53 false (fun K w => nilW x55 K w) (fun x56 w =>
 gW x53 false (fun K w => addW 1 x56 K w) (fun x57 w =>
 gW x53 false (fun K w => load1W x57 K w) (fun x58 w =>
 gW x53 false (fun K w => lenW x58 K w) (fun x59 w =>
 gW x53 false (fun K w => CP Try.prog Fn.reads_Reads_Len [x54] K w) (fun x60 w =>
 andP (fun w => andP (fun w => gW x53 false (fun K w => load1W x57 K w) (fun v w => eqP v x58 w) w) (fun w => trueP w) w) (fun w =>
 gW x53 false (fun K w => binIntW .neq x60 x59 K w) (fun x61 w =>
 pickW x53 (Value.bool true) x61 (fun x62 w =>
 gW x62 false (fun K w => K x3 w) (fun x63 w =>
 gW x62 false (fun K w => K x9 w) (fun x64 w =>
 gW x62 false (fun K w => K x4 w) (fun x65 w =>
 gW x62 false (fun K w => nilW x65 K w) (fun x66 w =>
 gW x62 false (fun K w => addW 1 x66 K w) (fun x67 w =>
 gW x62 false (fun K w => load1W x67 K w) (fun x68 w =>
 gW x62 false (fun K w => K x9 w) (fun x69 w =>
 gW x62 false (fun K w => CP Try.prog Fn.reads_Reads_Stands [x63, x64] K w) (fun x70 w =>
 andP (fun w => andP (fun w => gW x62 false (fun K w => load1W x67 K w) (fun v w => eqP v x68 w) w) (fun w => andP (fun w => trueP w) (fun w => trueP w) w) w) (fun w =>
 gW x62 false (fun K w => CP Try.prog Fn.ref7_Stands [x68, x69] K w) (fun x71 w =>
 andP (fun w => andP (fun w => trueP w) (fun w => trueP w) w) (fun w =>
 gW x62 false (fun K w => binBoolW .neq x70 x71 K w) (fun x72 w =>
 pickW x62 (Value.bool true) x72 (fun x73 w =>
 condP x73 (fun w => K (Value.bool false) w) (fun w => addW 0 x38 (fun x74 w =>
 load1W x74 (fun x75 w =>
 CP Try.prog Fn.reads_Reads_Get [x3, x75] (fun x76 w =>
 extractW 0 x76 (fun x77 w =>
 extractW 1 x76 (fun x78 w =>
 loopW3 (Value.int .u64 0) (Value.bool false) (Value.int .i64 0) (fun J12 x79 x80 x81 w =>
 nilW x4 (fun x82 w =>
 addW 1 x82 (fun x83 w =>
 load1W x83 (fun x84 w =>
 lenW x84 (fun x85 w =>
 binIntW .lss x81 x85 (fun x86 w =>
 condP x86 (fun w => drewW (fun w => nilW x4 (fun x87 w =>
 addW 1 x87 (fun x88 w =>
 load1W x88 (fun x89 w =>
 idxW 2 x89 x81 (fun x90 w =>
 addW 0 x90 (fun x91 w =>
 load1W x91 (fun x92 w =>
 addW 0 x38 (fun x93 w =>
 load1W x93 (fun x94 w =>
 binIntW .eql x92 x94 (fun x95 w =>
 joinW2 (fun x96 x97 w =>
 binIntW .add x81 (Value.int .i64 1) (fun x98 w =>
 J12 x96 x97 x98 w) w) (fun j2 w =>
 condP x95 (fun w => nilW x4 (fun x99 w =>
 addW 1 x99 (fun x100 w =>
 load1W x100 (fun x101 w =>
 idxW 2 x101 x81 (fun x102 w =>
 addW 1 x102 (fun x103 w =>
 load1W x103 (fun x104 w =>
 j2 x104 (Value.bool true) w) w) w) w) w) w) w) (fun w => j2 x79 x80 w) w) w) w) w) w) w) w) w) w) w) w) w) (fun w => binIntW .neq x77 x79 (fun x105 w =>
 gW x105 false (fun K w => K x78 w) (fun x106 w =>
 gW x105 false (fun K w => K x80 w) (fun x107 w =>
 gW x105 false (fun K w => binBoolW .neq x106 x107 K w) (fun x108 w =>
 pickW x105 (Value.bool true) x108 (fun x109 w =>
 condP x109 (fun w => K (Value.bool false) w) (fun w => binIntW .add x29 (Value.int .i64 1) (fun x110 w =>
 J8 x110 w) w) w) w) w) w) w) w) w) w) w) w) w) w) w) w) w) w) w) w) w) w) w) w) w) w) w) w) w) w) w) w) w) w) w) w) w) w) w) w) w) w) w) w) w) w) w) w) w) w) w) w) w) w) w) w) w) w) w) w) w) w) w) w) w) w) w) w) (fun w => K (Value.bool true) w) w) w) w) w) w) w) w) w) w) w) w) w) w) w) w) w) w) w) w) w) w) w) w) w) w

/-- law7_ReadsFull -/
def S_law7_ReadsFull (a0 a1 : Value) (K : KV) : World → Prop := fun w =>
 CP Try.prog Fn.law7_ReadsRuns [] (fun x1 w =>
 notW x1 (fun x2 w =>
 condP x2 (fun w => K (Value.bool false) w) (fun w => CP Try.prog Fn.reads_New [a0] (fun x3 w =>
 eqNilW .eql x3 (Value.pointer none) (fun x4 w =>
 condP x4 (fun w => K (Value.bool false) w) (fun w => CP Try.prog Fn.ref1_Held [a0, (Value.int .i64 1), (Value.int .i64 16)] (fun x5 w =>
 loopW1 (Value.int .i64 0) (fun J2 x6 w =>
 lenW a1 (fun x7 w =>
 binIntW .lss x6 x7 (fun x8 w =>
 gW x8 true (fun K w => K x6 w) (fun x9 w =>
 gW x8 true (fun K w => binIntW .lss x9 (Value.int .i64 16) K w) (fun x10 w =>
 pickW x8 x10 (Value.bool false) (fun x11 w =>
 condP x11 (fun w => idxW 1 a1 x6 (fun x12 w =>
 load1W x12 (fun x13 w =>
 convW .u64 x13 (fun x14 w =>
 buildW [(Value.int .i64 0), (Value.int .u64 0)] [(0, 1, x6), (1, 1, x14)] (fun x15 w =>
 CP Try.prog Fn.reads_Reads_Add [x3, x15] (fun x16 w =>
 binIntW .eql x16 (Value.int .i64 0) (fun x17 w =>
 binIntW .lss x6 x5 (fun x18 w =>
 binBoolW .neq x17 x18 (fun x19 w =>
 gW x19 false (fun K w => K x16 w) (fun x20 w =>
 gW x19 false (fun K w => binIntW .neq x20 (Value.int .i64 0) K w) (fun x21 w =>
 gW x19 false (fun K w => K x21 w) (fun x22 w =>
 gW x22 true (fun K w => K x16 w) (fun x23 w =>
 gW x22 true (fun K w => binIntW .neq x23 (Value.int .i64 5) K w) (fun x24 w =>
 gW x19 false (fun K w => pickW x22 x24 (Value.bool false) K w) (fun x25 w =>
 pickW x19 (Value.bool true) x25 (fun x26 w =>
 condP x26 (fun w => K (Value.bool false) w) (fun w => binIntW .add x6 (Value.int .i64 1) (fun x27 w =>
 J2 x27 w) w) w) w) w) w) w) w) w) w) w) w) w) w) w) w) w) w) (fun w => loopW1 (Value.int .i64 0) (fun J4 x28 w =>
 lenW a1 (fun x29 w =>
 binIntW .lss x28 x29 (fun x30 w =>
 gW x30 true (fun K w => K x28 w) (fun x31 w =>
 gW x30 true (fun K w => binIntW .lss x31 (Value.int .i64 16) K w) (fun x32 w =>
 pickW x30 x32 (Value.bool false) (fun x33 w =>
 condP x33 (fun w => CP Try.prog Fn.reads_Reads_Get [x3, x28] (fun x34 w =>
 extractW 0 x34 (fun x35 w =>
 extractW 1 x34 (fun x36 w =>
 binIntW .lss x28 x5 (fun x37 w =>
 binBoolW .neq x36 x37 (fun x38 w =>
 gW x38 false (fun K w => K x36 w) (fun x39 w =>
 gW x38 false (fun K w => K x39 w) (fun x40 w =>
 gW x40 true (fun K w => K x35 w) (fun x41 w =>
 gW x40 true (fun K w => K a1 w) (fun x42 w =>
 gW x40 true (fun K w => K x28 w) (fun x43 w =>
 gW x40 true (fun K w => idxW 1 x42 x43 K w) (fun x44 w =>
 gW x40 true (fun K w => load1W x44 K w) (fun x45 w =>
 gW x40 true (fun K w => convW .u64 x45 K w) (fun x46 w =>
 gW x40 true (fun K w => binIntW .neq x41 x46 K w) (fun x47 w =>
 gW x38 false (fun K w => pickW x40 x47 (Value.bool false) K w) (fun x48 w =>
 pickW x38 (Value.bool true) x48 (fun x49 w =>
 gW x49 false (fun K w => K x36 w) (fun x50 w =>
 gW x49 false (fun K w => notW x50 K w) (fun x51 w =>
 gW x49 false (fun K w => K x51 w) (fun x52 w =>
 gW x52 true (fun K w => K x35 w) (fun x53 w =>
 gW x52 true (fun K w => binIntW .neq x53 (Value.int .u64 0) K w) (fun x54 w =>
 gW x49 false (fun K w => pickW x52 x54 (Value.bool false) K w) (fun x55 w =>
 pickW x49 (Value.bool true) x55 (fun x56 w =>
 condP x56 (fun w => K (Value.bool false) w) (fun w => binIntW .add x28 (Value.int .i64 1) (fun x57 w =>
 J4 x57 w) w) w) w) w) w) w) w) w) w) w) w) w) w) w) w) w) w) w) w) w) w) w) w) w) w) (fun w => CP Try.prog Fn.reads_Reads_Len [x3] (fun x58 w =>
 lenW a1 (fun x59 w =>
 minW x5 [x59, (Value.int .i64 16)] (fun x60 w =>
 binIntW .eql x58 x60 (fun x61 w =>
 K x61 w) w) w) w) w) w) w) w) w) w) w) w) w) w) w) w) w) w) w) w) w) w) w) w) w) w

/-- law7_ReadsStands -/
def S_law7_ReadsStands (a0 a1 a2 a3 : Value) (K : KV) : World → Prop := fun w =>
 CP Try.prog Fn.law7_ReadsRuns [] (fun x1 w =>
 notW x1 (fun x2 w =>
 condP x2 (fun w => K (Value.bool false) w) (fun w => lenW a0 (fun x3 w =>
 binIntW .lss x3 (Value.int .i64 1) (fun x4 w =>
 gW x4 false (fun K w => K a0 w) (fun x5 w =>
 gW x4 false (fun K w => lenW x5 K w) (fun x6 w =>
 gW x4 false (fun K w => binIntW .gtr x6 (Value.int .i64 16) K w) (fun x7 w =>
 pickW x4 (Value.bool true) x7 (fun x8 w =>
 condP x8 (fun w => K (Value.bool true) w) (fun w => CP Try.prog Fn.reads_New [(Value.int .i64 16)] (fun x9 w =>
 eqNilW .eql x9 (Value.pointer none) (fun x10 w =>
 condP x10 (fun w => K (Value.bool false) w) (fun w => loopW2 (Value.slice none 0 0) (Value.int .i64 0) (fun J2 x11 x12 w =>
 lenW a0 (fun x13 w =>
 binIntW .lss x12 x13 (fun x14 w =>
 condP x14 (fun w => idxW 1 a0 x12 (fun x15 w =>
 load1W x15 (fun x16 w =>
 convW .u64 x16 (fun x17 w =>
 buildW [(Value.int .u64 0), (Value.bool false), (Value.int .i64 0)] [(0, 1, x17)] (fun x18 w =>
 buildSliceW [(Value.int .u64 0), (Value.bool false), (Value.int .i64 0)] 1 [(0, 3, x18)] (fun x19 w =>
 appendW 3 24 x11 x19 (fun x20 w =>
 convW .u64 x12 (fun x21 w =>
 binIntW .shr a1 x21 (fun x22 w =>
 binIntW .and x22 (Value.int .u16 1) (fun x23 w =>
 binIntW .eql x23 (Value.int .u16 1) (fun x24 w =>
 gW x24 true (fun K w => K x9 w) (fun x25 w =>
 gW x24 true (fun K w => K x12 w) (fun x26 w =>
 gW x24 true (fun K w => K a0 w) (fun x27 w =>
 gW x24 true (fun K w => K x12 w) (fun x28 w =>
 gW x24 true (fun K w => idxW 1 x27 x28 K w) (fun x29 w =>
 gW x24 true (fun K w => load1W x29 K w) (fun x30 w =>
 gW x24 true (fun K w => convW .u64 x30 K w) (fun x31 w =>
 gW x24 true (fun K w => buildW [(Value.int .i64 0), (Value.int .u64 0)] [(0, 1, x26), (1, 1, x31)] K w) (fun x32 w =>
 gW x24 true (fun K w => CP Try.prog Fn.reads_Reads_Add [x25, x32] K w) (fun x33 w =>
 gW x24 true (fun K w => binIntW .neq x33 (Value.int .i64 0) K w) (fun x34 w =>
 pickW x24 x34 (Value.bool false) (fun x35 w =>
 condP x35 (fun w => K (Value.bool false) w) (fun w => binIntW .add x12 (Value.int .i64 1) (fun x36 w =>
 J2 x20 x36 w) w) w) w) w) w) w) w) w) w) w) w) w) w) w) w) w) w) w) w) w) w) w) w) (fun w => CP Try.prog Fn.reads_Reads_Stands [x9, x11] (fun x37 w =>
 notW x37 (fun x38 w =>
 condP x38 (fun w => K (Value.bool false) w) (fun w => convW .i64 a2 (fun x39 w =>
 lenW a0 (fun x40 w =>
 binIntW .rem x39 x40 (fun x41 w =>
 binIntW .rem a3 (Value.int .u8 2) (fun x42 w =>
 binIntW .eql x42 (Value.int .u8 0) (fun x43 w =>
 joinW0 (fun  w =>
 CP Try.prog Fn.reads_Reads_Stands [x9, x11] (fun x44 w =>
 convW .u64 x41 (fun x45 w =>
 binIntW .shr a1 x45 (fun x46 w =>
 binIntW .and x46 (Value.int .u16 1) (fun x47 w =>
 binIntW .eql x47 (Value.int .u16 0) (fun x48 w =>
 binBoolW .eql x44 x48 (fun x49 w =>
 K x49 w) w) w) w) w) w) w) (fun j1 w =>
 condP x43 (fun w => idxW 3 x11 x41 (fun x50 w =>
 addW 1 x50 (fun x51 w =>
 storeW 1 x51 (Value.bool true) (fun _ w =>
 j1  w) w) w) w) (fun w => idxW 3 x11 x41 (fun x53 w =>
 addW 0 x53 (fun x54 w =>
 load1W x54 (fun x55 w =>
 binIntW .add x55 (Value.int .u64 1) (fun x56 w =>
 idxW 3 x11 x41 (fun x57 w =>
 addW 0 x57 (fun x58 w =>
 storeW 1 x58 x56 (fun _ w =>
 j1  w) w) w) w) w) w) w) w) w) w) w) w) w) w) w) w) w) w) w) w) w) w) w) w) w) w) w) w) w) w) w) w) w) w) w

/-- law5_EpochPlays -/
def S_law5_EpochPlays (a0 a1 : Value) (K : KV) : World → Prop := fun w =>
 CP Try.prog Fn.law5_EpochRuns [] (fun x1 w =>
 notW x1 (fun x2 w =>
 condP x2 (fun w => K (Value.bool false) w) (fun w => CP Try.prog Fn.epoch_New [a0] (fun x3 w =>
 eqNilW .neq x3 (Value.pointer none) (fun x4 w =>
 gW x4 true (fun K w => K x3 w) (fun x5 w =>
 gW x4 true (fun K w => K a0 w) (fun x6 w =>
 gW x4 true (fun K w => CP Try.prog Fn.ref1_Held [x6, (Value.int .i64 1), (Value.int .i64 4)] K w) (fun x7 w =>
 gW x4 true (fun K w => makeSliceW 8 [(Value.int .u64 0)] x7 x7 K w) (fun x8 w =>
 gW x4 true (fun K w => K a1 w) (fun x9 w =>
 gW x4 true (fun K w => CP Try.prog Fn.law5_do [x5, x8, x9] K w) (fun x10 w =>
 pickW x4 x10 (Value.bool false) (fun x11 w =>
 K x11 w) w) w) w) w) w) w) w) w) w) w) w) w

/-- law5_EpochCopies -/
def S_law5_EpochCopies (a0 a1 a2 a3 : Value) (K : KV) : World → Prop := fun w =>
 CP Try.prog Fn.law5_EpochRuns [] (fun x1 w =>
 notW x1 (fun x2 w =>
 condP x2 (fun w => K (Value.bool false) w) (fun w => CP Try.prog Fn.epoch_New [a0] (fun x3 w =>
 CP Try.prog Fn.ref1_Held [a0, (Value.int .i64 1), (Value.int .i64 4)] (fun x4 w =>
 makeSliceW 8 [(Value.int .u64 0)] x4 x4 (fun x5 w =>
 eqNilW .eql x3 (Value.pointer none) (fun x6 w =>
 gW x6 false (fun K w => K x3 w) (fun x7 w =>
 gW x6 false (fun K w => K x5 w) (fun x8 w =>
 gW x6 false (fun K w => K a1 w) (fun x9 w =>
 gW x6 false (fun K w => CP Try.prog Fn.law5_do [x7, x8, x9] K w) (fun x10 w =>
 gW x6 false (fun K w => notW x10 K w) (fun x11 w =>
 pickW x6 (Value.bool true) x11 (fun x12 w =>
 condP x12 (fun w => K (Value.bool false) w) (fun w => CP Try.prog Fn.epoch_Slots_Copy [x3] (fun x13 w =>
 appendW 1 8 (Value.slice none 0 0) x5 (fun x14 w =>
 eqNilW .neq x13 (Value.pointer none) (fun x15 w =>
 gW x15 true (fun K w => K x13 w) (fun x16 w =>
 gW x15 true (fun K w => K x14 w) (fun x17 w =>
 gW x15 true (fun K w => K a2 w) (fun x18 w =>
 gW x15 true (fun K w => CP Try.prog Fn.law5_do [x16, x17, x18] K w) (fun x19 w =>
 pickW x15 x19 (Value.bool false) (fun x20 w =>
 gW x20 true (fun K w => K x3 w) (fun x21 w =>
 gW x20 true (fun K w => K x5 w) (fun x22 w =>
 gW x20 true (fun K w => K a3 w) (fun x23 w =>
 gW x20 true (fun K w => CP Try.prog Fn.law5_do [x21, x22, x23] K w) (fun x24 w =>
 pickW x20 x24 (Value.bool false) (fun x25 w =>
 gW x25 true (fun K w => K x13 w) (fun x26 w =>
 gW x25 true (fun K w => CP Try.prog Fn.epoch_Slots_All [x26] K w) (fun x27 w =>
 gW x25 true (fun K w => K x14 w) (fun x28 w =>
 gW x25 true (fun K w => CP Try.prog Fn.book_Same_uint64 [x27, x28] K w) (fun x29 w =>
 pickW x25 x29 (Value.bool false) (fun x30 w =>
 K x30 w) w) w) w) w) w) w) w) w) w) w) w) w) w) w) w) w) w) w) w) w) w) w) w) w) w) w) w) w) w) w) w) w

/-- heap_New -/
def S_heap_New (a0 : Value) (K : KV) : World → Prop := fun w =>
 minW a0 [(Value.int .i64 256)] (fun x1 w =>
 maxW (Value.int .i64 32) [x1] (fun x2 w =>
 makeSliceW 8 [(Value.int .u64 0)] x2 x2 (fun x3 w =>
 buildW [(Value.slice none 0 0)] [(0, 1, x3)] (fun x4 w =>
 boxW x4 (fun x5 w =>
 K x5 w) w) w) w) w) w

/-- heap_Heap_Store -/
def S_heap_Heap_Store (a0 a1 a2 : Value) (K : KV) : World → Prop := fun w =>
 CP Try.prog Fn.heap_Heap_is [a0, a1] (fun x1 w =>
 notW x1 (fun x2 w =>
 condP x2 (fun w => K (Value.int .i64 2) w) (fun w => nilW a0 (fun x3 w =>
 addW 0 x3 (fun x4 w =>
 load1W x4 (fun x5 w =>
 idxW 1 x5 a1 (fun x6 w =>
 storeW 1 x6 a2 (fun _ w =>
 K (Value.int .i64 0) w) w) w) w) w) w) w) w) w

/-- heap_Heap_Load -/
def S_heap_Heap_Load (a0 a1 : Value) (K : KV) : World → Prop := fun w =>
 CP Try.prog Fn.heap_Heap_is [a0, a1] (fun x1 w =>
 notW x1 (fun x2 w =>
 condP x2 (fun w => K (Value.tuple #[(Value.int .u64 0), (Value.int .i64 2)]) w) (fun w => nilW a0 (fun x3 w =>
 addW 0 x3 (fun x4 w =>
 load1W x4 (fun x5 w =>
 idxW 1 x5 a1 (fun x6 w =>
 load1W x6 (fun x7 w =>
 K (Value.tuple #[x7, (Value.int .i64 0)]) w) w) w) w) w) w) w) w) w

/-- heap_Heap_Len -/
def S_heap_Heap_Len (a0 : Value) (K : KV) : World → Prop := fun w =>
 nilW a0 (fun x1 w =>
 addW 0 x1 (fun x2 w =>
 load1W x2 (fun x3 w =>
 lenW x3 (fun x4 w =>
 K x4 w) w) w) w) w

/-- heap_Heap_All -/
def S_heap_Heap_All (a0 : Value) (K : KV) : World → Prop := fun w =>
 nilW a0 (fun x1 w =>
 addW 0 x1 (fun x2 w =>
 load1W x2 (fun x3 w =>
 CP Try.prog Fn.slices_Clone_uint64_uint64 [x3] (fun x4 w =>
 K x4 w) w) w) w) w

/-- heap_Heap_Copy -/
def S_heap_Heap_Copy (a0 : Value) (K : KV) : World → Prop := fun w =>
 CP Try.prog Fn.heap_Heap_All [a0] (fun x1 w =>
 buildW [(Value.slice none 0 0)] [(0, 1, x1)] (fun x2 w =>
 boxW x2 (fun x3 w =>
 K x3 w) w) w) w

/-- law2_do -/
def S_law2_do (a0 a1 a2 : Value) (K : KV) : World → Prop := fun w =>
 loopW1 (Value.int .i64 0) (fun J2 x1 w =>
 lenW a2 (fun x2 w =>
 binIntW .lss x1 x2 (fun x3 w =>
 gW x3 true (fun K w => K x1 w) (fun x4 w =>
 gW x3 true (fun K w => binIntW .lss x4 (Value.int .i64 100) K w) (fun x5 w =>
 pickW x3 x5 (Value.bool false) (fun x6 w =>
 condP x6 (fun w => idxW 3 a2 x1 (fun x7 w =>
 loadNW 3 x7 (fun x8 w =>
 newW #[(Value.bool false), (Value.int .i64 0), (Value.int .u64 0)] (fun x9 w =>
 storeW 3 x9 x8 (fun _ w =>
 addW 1 x9 (fun x11 w =>
 load1W x11 (fun x12 w =>
 binIntW .geq x12 (Value.int .i64 1) (fun x13 w =>
 gW x13 true (fun K w => addW 1 x9 K w) (fun x14 w =>
 gW x13 true (fun K w => load1W x14 K w) (fun x15 w =>
 gW x13 true (fun K w => K a1 w) (fun x16 w =>
 gW x13 true (fun K w => lenW x16 K w) (fun x17 w =>
 gW x13 true (fun K w => binIntW .lss x15 x17 K w) (fun x18 w =>
 pickW x13 x18 (Value.bool false) (fun x19 w =>
 addW 0 x9 (fun x20 w =>
 load1W x20 (fun x21 w =>
 joinW0 (fun  w =>
 addW 1 x9 (fun x22 w =>
 load1W x22 (fun x23 w =>
 CP Try.prog Fn.heap_Heap_Load [a0, x23] (fun x24 w =>
 extractW 0 x24 (fun x25 w =>
 extractW 1 x24 (fun x26 w =>
 binIntW .eql x26 (Value.int .i64 0) (fun x27 w =>
 binBoolW .neq x27 x19 (fun x28 w =>
 gW x28 false (fun K w => K x19 w) (fun x29 w =>
 gW x28 false (fun K w => notW x29 K w) (fun x30 w =>
 gW x28 false (fun K w => K x30 w) (fun x31 w =>
 gW x31 true (fun K w => K x26 w) (fun x32 w =>
 gW x31 true (fun K w => binIntW .neq x32 (Value.int .i64 2) K w) (fun x33 w =>
 gW x31 true (fun K w => K x33 w) (fun x34 w =>
 gW x34 false (fun K w => K x25 w) (fun x35 w =>
 gW x34 false (fun K w => binIntW .neq x35 (Value.int .u64 0) K w) (fun x36 w =>
 gW x31 true (fun K w => pickW x34 (Value.bool true) x36 K w) (fun x37 w =>
 gW x28 false (fun K w => pickW x31 x37 (Value.bool false) K w) (fun x38 w =>
 pickW x28 (Value.bool true) x38 (fun x39 w =>
 gW x39 false (fun K w => K x19 w) (fun x40 w =>
 gW x39 false (fun K w => K x40 w) (fun x41 w =>
 gW x41 true (fun K w => K x25 w) (fun x42 w =>
 gW x41 true (fun K w => K a1 w) (fun x43 w =>
 gW x41 true (fun K w => addW 1 x9 K w) (fun x44 w =>
 gW x41 true (fun K w => load1W x44 K w) (fun x45 w =>
 gW x41 true (fun K w => idxW 1 x43 x45 K w) (fun x46 w =>
 gW x41 true (fun K w => load1W x46 K w) (fun x47 w =>
 gW x41 true (fun K w => binIntW .neq x42 x47 K w) (fun x48 w =>
 gW x39 false (fun K w => pickW x41 x48 (Value.bool false) K w) (fun x49 w =>
 pickW x39 (Value.bool true) x49 (fun x50 w =>
 condP x50 (fun w => K (Value.bool false) w) (fun w => binIntW .add x1 (Value.int .i64 1) (fun x51 w =>
 J2 x51 w) w) w) w) w) w) w) w) w) w) w) w) w) w) w) w) w) w) w) w) w) w) w) w) w) w) w) w) w) w) w) w) (fun j1 w =>
 condP x21 (fun w => addW 1 x9 (fun x52 w =>
 load1W x52 (fun x53 w =>
 addW 2 x9 (fun x54 w =>
 load1W x54 (fun x55 w =>
 CP Try.prog Fn.heap_Heap_Store [a0, x53, x55] (fun x56 w =>
 binIntW .eql x56 (Value.int .i64 0) (fun x57 w =>
 binBoolW .neq x57 x19 (fun x58 w =>
 gW x58 false (fun K w => K x19 w) (fun x59 w =>
 gW x58 false (fun K w => notW x59 K w) (fun x60 w =>
 gW x58 false (fun K w => K x60 w) (fun x61 w =>
 gW x61 true (fun K w => K x56 w) (fun x62 w =>
 gW x61 true (fun K w => binIntW .neq x62 (Value.int .i64 2) K w) (fun x63 w =>
 gW x58 false (fun K w => pickW x61 x63 (Value.bool false) K w) (fun x64 w =>
 pickW x58 (Value.bool true) x64 (fun x65 w =>
 condP x65 (fun w => K (Value.bool false) w) (fun w => joinW0 (fun  w =>
 j1  w) (fun j2 w =>
 condP x19 (fun w => addW 1 x9 (fun x66 w =>
 load1W x66 (fun x67 w =>
 addW 2 x9 (fun x68 w =>
 load1W x68 (fun x69 w =>
 idxW 1 a1 x67 (fun x70 w =>
 storeW 1 x70 x69 (fun _ w =>
 j2  w) w) w) w) w) w) w) (fun w => j2  w) w) w) w) w) w) w) w) w) w) w) w) w) w) w) w) w) w) (fun w => j1  w) w) w) w) w) w) w) w) w) w) w) w) w) w) w) w) w) w) (fun w => CP Try.prog Fn.heap_Heap_All [a0] (fun x72 w =>
 lenW x72 (fun x73 w =>
 lenW a1 (fun x74 w =>
 binIntW .neq x73 x74 (fun x75 w =>
 gW x75 false (fun K w => K a0 w) (fun x76 w =>
 gW x75 false (fun K w => CP Try.prog Fn.heap_Heap_Len [x76] K w) (fun x77 w =>
 gW x75 false (fun K w => K a1 w) (fun x78 w =>
 gW x75 false (fun K w => lenW x78 K w) (fun x79 w =>
 gW x75 false (fun K w => binIntW .neq x77 x79 K w) (fun x80 w =>
 pickW x75 (Value.bool true) x80 (fun x81 w =>
 condP x81 (fun w => K (Value.bool false) w) (fun w => loopW1 (Value.int .i64 0) (fun J4 x82 w =>
 lenW a1 (fun x83 w =>
 binIntW .lss x82 x83 (fun x84 w =>
 condP x84 (fun w => drewW (fun w => idxW 1 x72 x82 (fun x85 w =>
 load1W x85 (fun x86 w =>
 idxW 1 a1 x82 (fun x87 w =>
 load1W x87 (fun x88 w =>
 binIntW .neq x86 x88 (fun x89 w =>
 condP x89 (fun w => K (Value.bool false) w) (fun w => binIntW .add x82 (Value.int .i64 1) (fun x90 w =>
 J4 x90 w) w) w) w) w) w) w) w) w) (fun w => K (Value.bool true) w) w) w) w) w) w) w) w) w) w) w) w) w) w) w) w) w) w) w) w) w) w) w

/-- ref1_Held -/
def S_ref1_Held (a0 a1 a2 : Value) (K : KV) : World → Prop := fun w =>
 binIntW .lss a0 a1 (fun x1 w =>
 condP x1 (fun w => K a1 w) (fun w => binIntW .gtr a0 a2 (fun x2 w =>
 condP x2 (fun w => K a2 w) (fun w => K a0 w) w) w) w) w

/-- limbo_New -/
def S_limbo_New (K : KV) : World → Prop := fun w =>
 buildW [(Value.slice none 0 0)] [] (fun x1 w =>
 boxW x1 (fun x2 w =>
 K x2 w) w) w

/-- limbo_Limbo_Add -/
def S_limbo_Limbo_Add (a0 a1 a2 : Value) (K : KV) : World → Prop := fun w =>
 lenW a2 (fun x1 w =>
 loopW1 (Value.int .i64 0) (fun J2 x2 w =>
 binIntW .lss x2 x1 (fun x3 w =>
 condP x3 (fun w => idxW 1 a2 x2 (fun x4 w =>
 load1W x4 (fun x5 w =>
 nilW a0 (fun x6 w =>
 addW 0 x6 (fun x7 w =>
 load1W x7 (fun x8 w =>
 buildW [(Value.int .i64 0), (Value.int .u64 0)] [(0, 1, x5), (1, 1, a1)] (fun x9 w =>
 buildSliceW [(Value.int .i64 0), (Value.int .u64 0)] 1 [(0, 2, x9)] (fun x10 w =>
 appendW 2 16 x8 x10 (fun x11 w =>
 nilW a0 (fun x12 w =>
 addW 0 x12 (fun x13 w =>
 storeW 1 x13 x11 (fun _ w =>
 binIntW .add x2 (Value.int .i64 1) (fun x15 w =>
 J2 x15 w) w) w) w) w) w) w) w) w) w) w) w) w) (fun w => K (Value.tuple #[]) w) w) w) w) w

/-- limbo_Limbo_Ripe -/
def S_limbo_Limbo_Ripe (a0 a1 : Value) (K : KV) : World → Prop := fun w =>
 nilW a0 (fun x1 w =>
 addW 0 x1 (fun x2 w =>
 load1W x2 (fun x3 w =>
 lenW x3 (fun x4 w =>
 loopW3 (Value.slice none 0 0) (Value.slice none 0 0) (Value.int .i64 0) (fun J2 x5 x6 x7 w =>
 binIntW .lss x7 x4 (fun x8 w =>
 condP x8 (fun w => idxW 2 x3 x7 (fun x9 w =>
 loadNW 2 x9 (fun x10 w =>
 newW #[(Value.int .i64 0), (Value.int .u64 0)] (fun x11 w =>
 storeW 2 x11 x10 (fun _ w =>
 addW 1 x11 (fun x13 w =>
 load1W x13 (fun x14 w =>
 CP Try.prog Fn.epoch_Passed [a1, x14] (fun x15 w =>
 joinW2 (fun x16 x17 w =>
 binIntW .add x7 (Value.int .i64 1) (fun x18 w =>
 J2 x16 x17 x18 w) w) (fun j1 w =>
 condP x15 (fun w => loadNW 2 x11 (fun x19 w =>
 buildSliceW [(Value.int .i64 0), (Value.int .u64 0)] 1 [(0, 2, x19)] (fun x20 w =>
 appendW 2 16 x5 x20 (fun x21 w =>
 j1 x21 x6 w) w) w) w) (fun w => loadNW 2 x11 (fun x22 w =>
 buildSliceW [(Value.int .i64 0), (Value.int .u64 0)] 1 [(0, 2, x22)] (fun x23 w =>
 appendW 2 16 x6 x23 (fun x24 w =>
 j1 x5 x24 w) w) w) w) w) w) w) w) w) w) w) w) w) (fun w => nilW a0 (fun x25 w =>
 addW 0 x25 (fun x26 w =>
 storeW 1 x26 x6 (fun _ w =>
 K x5 w) w) w) w) w) w) w) w) w) w) w

/-- limbo_Limbo_Len -/
def S_limbo_Limbo_Len (a0 : Value) (K : KV) : World → Prop := fun w =>
 nilW a0 (fun x1 w =>
 addW 0 x1 (fun x2 w =>
 load1W x2 (fun x3 w =>
 lenW x3 (fun x4 w =>
 K x4 w) w) w) w) w

/-- limbo_Limbo_All -/
def S_limbo_Limbo_All (a0 : Value) (K : KV) : World → Prop := fun w =>
 nilW a0 (fun x1 w =>
 addW 0 x1 (fun x2 w =>
 load1W x2 (fun x3 w =>
 CP Try.prog Fn.slices_Clone_api_Rest_api_Rest [x3] (fun x4 w =>
 K x4 w) w) w) w) w

/-- ref7_Ripe -/
def S_ref7_Ripe (a0 a1 : Value) (K : KV) : World → Prop := fun w =>
 loopW3 (Value.slice none 0 0) (Value.slice none 0 0) (Value.int .i64 0) (fun J2 x1 x2 x3 w =>
 lenW a0 (fun x4 w =>
 binIntW .lss x3 x4 (fun x5 w =>
 condP x5 (fun w => idxW 2 a0 x3 (fun x6 w =>
 addW 1 x6 (fun x7 w =>
 load1W x7 (fun x8 w =>
 CP Try.prog Fn.ref1_Passed [a1, x8] (fun x9 w =>
 joinW2 (fun x10 x11 w =>
 binIntW .add x3 (Value.int .i64 1) (fun x12 w =>
 J2 x10 x11 x12 w) w) (fun j1 w =>
 condP x9 (fun w => idxW 2 a0 x3 (fun x13 w =>
 loadNW 2 x13 (fun x14 w =>
 buildSliceW [(Value.int .i64 0), (Value.int .u64 0)] 1 [(0, 2, x14)] (fun x15 w =>
 appendW 2 16 x1 x15 (fun x16 w =>
 j1 x16 x2 w) w) w) w) w) (fun w => idxW 2 a0 x3 (fun x17 w =>
 loadNW 2 x17 (fun x18 w =>
 buildSliceW [(Value.int .i64 0), (Value.int .u64 0)] 1 [(0, 2, x18)] (fun x19 w =>
 appendW 2 16 x2 x19 (fun x20 w =>
 j1 x1 x20 w) w) w) w) w) w) w) w) w) w) w) (fun w => K (Value.tuple #[x1, x2]) w) w) w) w) w

/-- book_Same_api_Rest -/
def S_book_Same_api_Rest (a0 a1 : Value) (K : KV) : World → Prop := fun w =>
 lenW a0 (fun x1 w =>
 lenW a1 (fun x2 w =>
 binIntW .neq x1 x2 (fun x3 w =>
 condP x3 (fun w => K (Value.bool false) w) (fun w => loopW1 (Value.int .i64 0) (fun J2 x4 w =>
 lenW a0 (fun x5 w =>
 binIntW .lss x4 x5 (fun x6 w =>
 condP x6 (fun w => drewW (fun w => idxW 2 a0 x4 (fun x7 w =>
 loadNW 2 x7 (fun x8 w =>
 idxW 2 a1 x4 (fun x9 w =>
 loadNW 2 x9 (fun x10 w =>
 eqAggW [.i .i64, .i .u64] .neq x8 x10 (fun x11 w =>
 condP x11 (fun w => K (Value.bool false) w) (fun w => binIntW .add x4 (Value.int .i64 1) (fun x12 w =>
 J2 x12 w) w) w) w) w) w) w) w) w) (fun w => K (Value.bool true) w) w) w) w) w) w) w) w) w

/-- epoch_Passed -/
def S_epoch_Passed (a0 a1 : Value) (K : KV) : World → Prop := fun w =>
 lenW a0 (fun x1 w =>
 loopW1 (Value.int .i64 0) (fun J2 x2 w =>
 binIntW .lss x2 x1 (fun x3 w =>
 condP x3 (fun w => idxW 1 a0 x2 (fun x4 w =>
 load1W x4 (fun x5 w =>
 binIntW .neq x5 (Value.int .u64 0) (fun x6 w =>
 gW x6 true (fun K w => K x5 w) (fun x7 w =>
 gW x6 true (fun K w => K a1 w) (fun x8 w =>
 gW x6 true (fun K w => binIntW .leq x7 x8 K w) (fun x9 w =>
 pickW x6 x9 (Value.bool false) (fun x10 w =>
 condP x10 (fun w => K (Value.bool false) w) (fun w => binIntW .add x2 (Value.int .i64 1) (fun x11 w =>
 J2 x11 w) w) w) w) w) w) w) w) w) w) (fun w => K (Value.bool true) w) w) w) w) w

/-- epoch_New -/
def S_epoch_New (a0 : Value) (K : KV) : World → Prop := fun w =>
 minW a0 [(Value.int .i64 4)] (fun x1 w =>
 maxW (Value.int .i64 1) [x1] (fun x2 w =>
 makeSliceW 8 [(Value.int .u64 0)] x2 x2 (fun x3 w =>
 buildW [(Value.slice none 0 0)] [(0, 1, x3)] (fun x4 w =>
 boxW x4 (fun x5 w =>
 K x5 w) w) w) w) w) w

/-- epoch_Slots_Store -/
def S_epoch_Slots_Store (a0 a1 a2 : Value) (K : KV) : World → Prop := fun w =>
 CP Try.prog Fn.epoch_Slots_is [a0, a1] (fun x1 w =>
 notW x1 (fun x2 w =>
 condP x2 (fun w => K (Value.int .i64 2) w) (fun w => nilW a0 (fun x3 w =>
 addW 0 x3 (fun x4 w =>
 load1W x4 (fun x5 w =>
 idxW 1 x5 a1 (fun x6 w =>
 storeW 1 x6 a2 (fun _ w =>
 K (Value.int .i64 0) w) w) w) w) w) w) w) w) w

/-- epoch_Slots_Least -/
def S_epoch_Slots_Least (a0 : Value) (K : KV) : World → Prop := fun w =>
 nilW a0 (fun x1 w =>
 addW 0 x1 (fun x2 w =>
 load1W x2 (fun x3 w =>
 lenW x3 (fun x4 w =>
 loopW2 (Value.int .u64 0) (Value.int .i64 0) (fun J2 x5 x6 w =>
 binIntW .lss x6 x4 (fun x7 w =>
 condP x7 (fun w => idxW 1 x3 x6 (fun x8 w =>
 load1W x8 (fun x9 w =>
 binIntW .neq x9 (Value.int .u64 0) (fun x10 w =>
 gW x10 true (fun K w => K x5 w) (fun x11 w =>
 gW x10 true (fun K w => binIntW .eql x11 (Value.int .u64 0) K w) (fun x12 w =>
 gW x10 true (fun K w => K x12 w) (fun x13 w =>
 gW x13 false (fun K w => K x9 w) (fun x14 w =>
 gW x13 false (fun K w => K x5 w) (fun x15 w =>
 gW x13 false (fun K w => binIntW .lss x14 x15 K w) (fun x16 w =>
 gW x10 true (fun K w => pickW x13 (Value.bool true) x16 K w) (fun x17 w =>
 pickW x10 x17 (Value.bool false) (fun x18 w =>
 joinW1 (fun x19 w =>
 binIntW .add x6 (Value.int .i64 1) (fun x20 w =>
 J2 x19 x20 w) w) (fun j1 w =>
 condP x18 (fun w => j1 x9 w) (fun w => j1 x5 w) w) w) w) w) w) w) w) w) w) w) w) w) w) (fun w => binIntW .neq x5 (Value.int .u64 0) (fun x21 w =>
 K (Value.tuple #[x5, x21]) w) w) w) w) w) w) w) w) w

/-- epoch_Slots_Passed -/
def S_epoch_Slots_Passed (a0 a1 : Value) (K : KV) : World → Prop := fun w =>
 nilW a0 (fun x1 w =>
 addW 0 x1 (fun x2 w =>
 load1W x2 (fun x3 w =>
 CP Try.prog Fn.epoch_Passed [x3, a1] (fun x4 w =>
 K x4 w) w) w) w) w

/-- epoch_Slots_Len -/
def S_epoch_Slots_Len (a0 : Value) (K : KV) : World → Prop := fun w =>
 nilW a0 (fun x1 w =>
 addW 0 x1 (fun x2 w =>
 load1W x2 (fun x3 w =>
 lenW x3 (fun x4 w =>
 K x4 w) w) w) w) w

/-- epoch_Slots_All -/
def S_epoch_Slots_All (a0 : Value) (K : KV) : World → Prop := fun w =>
 nilW a0 (fun x1 w =>
 addW 0 x1 (fun x2 w =>
 load1W x2 (fun x3 w =>
 CP Try.prog Fn.slices_Clone_uint64_uint64 [x3] (fun x4 w =>
 K x4 w) w) w) w) w

/-- epoch_Slots_Copy -/
def S_epoch_Slots_Copy (a0 : Value) (K : KV) : World → Prop := fun w =>
 CP Try.prog Fn.epoch_Slots_All [a0] (fun x1 w =>
 buildW [(Value.slice none 0 0)] [(0, 1, x1)] (fun x2 w =>
 boxW x2 (fun x3 w =>
 K x3 w) w) w) w

/-- reads_New -/
def S_reads_New (a0 : Value) (K : KV) : World → Prop := fun w =>
 minW a0 [(Value.int .i64 16)] (fun x1 w =>
 maxW (Value.int .i64 1) [x1] (fun x2 w =>
 buildW [(Value.int .i64 0), (Value.slice none 0 0)] [(0, 1, x2)] (fun x3 w =>
 boxW x3 (fun x4 w =>
 K x4 w) w) w) w) w

/-- reads_Reads_Add -/
def S_reads_Reads_Add (a0 a1 : Value) (K : KV) : World → Prop := fun w =>
 boxW a1 (fun x1 w =>
 addW 0 x1 (fun x2 w =>
 load1W x2 (fun x3 w =>
 binIntW .lss x3 (Value.int .i64 0) (fun x4 w =>
 gW x4 false (fun K w => addW 0 x1 K w) (fun x5 w =>
 gW x4 false (fun K w => load1W x5 K w) (fun x6 w =>
 gW x4 false (fun K w => binIntW .geq x6 (Value.int .i64 16) K w) (fun x7 w =>
 pickW x4 (Value.bool true) x7 (fun x8 w =>
 gW x8 false (fun K w => addW 1 x1 K w) (fun x9 w =>
 gW x8 false (fun K w => load1W x9 K w) (fun x10 w =>
 gW x8 false (fun K w => binIntW .geq x10 (Value.int .u64 4611686018427387904) K w) (fun x11 w =>
 pickW x8 (Value.bool true) x11 (fun x12 w =>
 condP x12 (fun w => K (Value.int .i64 1) w) (fun w => addW 0 x1 (fun x13 w =>
 load1W x13 (fun x14 w =>
 CP Try.prog Fn.reads_Reads_Get [a0, x14] (fun x15 w =>
 extractW 0 x15 (fun x16 w =>
 extractW 1 x15 (fun x17 w =>
 condP x17 (fun w => addW 1 x1 (fun x18 w =>
 load1W x18 (fun x19 w =>
 binIntW .neq x16 x19 (fun x20 w =>
 condP x20 (fun w => K (Value.int .i64 14) w) (fun w => K (Value.int .i64 0) w) w) w) w) w) (fun w => drewW (fun w => nilW a0 (fun x21 w =>
 addW 1 x21 (fun x22 w =>
 load1W x22 (fun x23 w =>
 lenW x23 (fun x24 w =>
 nilW a0 (fun x25 w =>
 addW 0 x25 (fun x26 w =>
 load1W x26 (fun x27 w =>
 binIntW .eql x24 x27 (fun x28 w =>
 condP x28 (fun w => K (Value.int .i64 5) w) (fun w => drewW (fun w => nilW a0 (fun x29 w =>
 addW 1 x29 (fun x30 w =>
 load1W x30 (fun x31 w =>
 loadNW 2 x1 (fun x32 w =>
 buildSliceW [(Value.int .i64 0), (Value.int .u64 0)] 1 [(0, 2, x32)] (fun x33 w =>
 andP (fun w => andP (fun w => trueP w) (fun w => andP (fun w => load1W x30 (fun v w => eqP v x31 w) w) (fun w => trueP w) w) w) (fun w =>
 appendW 2 16 x31 x33 (fun x34 w =>
 andP (fun w => andP (fun w => trueP w) (fun w => trueP w) w) (fun w =>
 nilW a0 (fun x35 w =>
 addW 1 x35 (fun x36 w =>
 storeW 1 x36 x34 (fun _ w =>
 andP (fun w => trueP w) (fun w =>
 K (Value.int .i64 0) w) w) w) w) w) w) w) w) w) w) w) w) w) w) w) w) w) w) w) w) w) w) w) w) w) w) w) w) w) w) w) w) w) w) w) w) w) w) w) w) w) w) w

/-- reads_Reads_Get -/
def S_reads_Reads_Get (a0 a1 : Value) (K : KV) : World → Prop := fun w =>
 nilW a0 (fun x1 w =>
 addW 1 x1 (fun x2 w =>
 load1W x2 (fun x3 w =>
 lenW x3 (fun x4 w =>
 loopW1 (Value.int .i64 0) (fun J2 x5 w =>
 binIntW .lss x5 x4 (fun x6 w =>
 condP x6 (fun w => idxW 2 x3 x5 (fun x7 w =>
 loadNW 2 x7 (fun x8 w =>
 newW #[(Value.int .i64 0), (Value.int .u64 0)] (fun x9 w =>
 storeW 2 x9 x8 (fun _ w =>
 addW 0 x9 (fun x11 w =>
 load1W x11 (fun x12 w =>
 binIntW .eql x12 a1 (fun x13 w =>
 condP x13 (fun w => addW 1 x9 (fun x14 w =>
 load1W x14 (fun x15 w =>
 K (Value.tuple #[x15, (Value.bool true)]) w) w) w) (fun w => binIntW .add x5 (Value.int .i64 1) (fun x16 w =>
 J2 x16 w) w) w) w) w) w) w) w) w) w) (fun w => K (Value.tuple #[(Value.int .u64 0), (Value.bool false)]) w) w) w) w) w) w) w) w

/-- reads_Reads_Len -/
def S_reads_Reads_Len (a0 : Value) (K : KV) : World → Prop := fun w =>
 nilW a0 (fun x1 w =>
 addW 1 x1 (fun x2 w =>
 load1W x2 (fun x3 w =>
 lenW x3 (fun x4 w =>
 K x4 w) w) w) w) w

/-- reads_Reads_All -/
def S_reads_Reads_All (a0 : Value) (K : KV) : World → Prop := fun w =>
 nilW a0 (fun x1 w =>
 addW 1 x1 (fun x2 w =>
 load1W x2 (fun x3 w =>
 CP Try.prog Fn.slices_Clone_api_Seen_api_Seen [x3] (fun x4 w =>
 K x4 w) w) w) w) w

/-- reads_Reads_Stands -/
def S_reads_Reads_Stands (a0 a1 : Value) (K : KV) : World → Prop := fun w =>
 nilW a0 (fun x1 w =>
 addW 1 x1 (fun x2 w =>
 load1W x2 (fun x3 w =>
 lenW x3 (fun x4 w =>
 loopW1 (Value.int .i64 0) (fun J2 x5 w =>
 binIntW .lss x5 x4 (fun x6 w =>
 condP x6 (fun w => idxW 2 x3 x5 (fun x7 w =>
 loadNW 2 x7 (fun x8 w =>
 newW #[(Value.int .i64 0), (Value.int .u64 0)] (fun x9 w =>
 storeW 2 x9 x8 (fun _ w =>
 drewW (fun w => addW 0 x9 (fun x11 w =>
 load1W x11 (fun x12 w =>
 lenW a1 (fun x13 w =>
 binIntW .geq x12 x13 (fun x14 w =>
 gW x14 false (fun K w => K a1 w) (fun x15 w =>
 gW x14 false (fun K w => addW 0 x9 K w) (fun x16 w =>
 gW x14 false (fun K w => load1W x16 K w) (fun x17 w =>
 gW x14 false (fun K w => idxW 3 x15 x17 K w) (fun x18 w =>
 gW x14 false (fun K w => addW 1 x18 K w) (fun x19 w =>
 gW x14 false (fun K w => load1W x19 K w) (fun x20 w =>
 pickW x14 (Value.bool true) x20 (fun x21 w =>
 gW x21 false (fun K w => K a1 w) (fun x22 w =>
 gW x21 false (fun K w => addW 0 x9 K w) (fun x23 w =>
 gW x21 false (fun K w => load1W x23 K w) (fun x24 w =>
 gW x21 false (fun K w => idxW 3 x22 x24 K w) (fun x25 w =>
 gW x21 false (fun K w => addW 0 x25 K w) (fun x26 w =>
 gW x21 false (fun K w => load1W x26 K w) (fun x27 w =>
 gW x21 false (fun K w => addW 1 x9 K w) (fun x28 w =>
 gW x21 false (fun K w => load1W x28 K w) (fun x29 w =>
 gW x21 false (fun K w => binIntW .neq x27 x29 K w) (fun x30 w =>
 pickW x21 (Value.bool true) x30 (fun x31 w =>
 condP x31 (fun w => K (Value.bool false) w) (fun w => binIntW .add x5 (Value.int .i64 1) (fun x32 w =>
 J2 x32 w) w) w) w) w) w) w) w) w) w) w) w) w) w) w) w) w) w) w) w) w) w) w) w) w) w) w) w) w) (fun w => K (Value.bool true) w) w) w) w) w) w) w) w

/-- ref7_NewReads -/
def S_ref7_NewReads (a0 : Value) (K : KV) : World → Prop := fun w =>
 CP Try.prog Fn.ref1_Held [a0, (Value.int .i64 1), (Value.int .i64 16)] (fun x1 w =>
 buildW [(Value.int .i64 0), (Value.slice none 0 0)] [(0, 1, x1)] (fun x2 w =>
 boxW x2 (fun x3 w =>
 K x3 w) w) w) w

/-- law7_near -/
def S_law7_near (a0 a1 : Value) (K : KV) : World → Prop := fun w =>
 boxW a0 (fun x1 w =>
 newW #[(Value.int .i64 0), (Value.int .u64 0)] (fun x2 w =>
 binIntW .rem a1 (Value.int .i64 7) (fun x3 w =>
 binIntW .eql x3 (Value.int .i64 6) (fun x4 w =>
 condP x4 (fun w => loadNW 2 x1 (fun x5 w =>
 storeW 2 x2 x5 (fun _ w =>
 loadNW 2 x2 (fun x7 w =>
 K x7 w) w) w) w) (fun w => drewW (fun w => addW 0 x1 (fun x8 w =>
 load1W x8 (fun x9 w =>
 addW 1 x1 (fun x10 w =>
 load1W x10 (fun x11 w =>
 binIntW .rem x11 (Value.int .u64 3) (fun x12 w =>
 CP Try.prog Fn.book_Within [x9, (Value.int .i64 0), (Value.int .i64 15)] (fun x13 w =>
 andP (fun w => andP (fun w => load1W x10 (fun v w => eqP v x11 w) w) (fun w => andP (fun w => trueP w) (fun w => trueP w) w) w) (fun w =>
 buildW [(Value.int .i64 0), (Value.int .u64 0)] [(0, 1, x13), (1, 1, x12)] (fun x14 w =>
 storeW 2 x2 x14 (fun _ w =>
 andP (fun w => andP (fun w => trueP w) (fun w => trueP w) w) (fun w =>
 loadNW 2 x2 (fun x16 w =>
 K x16 w) w) w) w) w) w) w) w) w) w) w) w) w) w) w) w) w) w

/-- ref7_Reads_Add -/
def S_ref7_Reads_Add (a0 a1 : Value) (K : KV) : World → Prop := fun w =>
 boxW a1 (fun x1 w =>
 addW 0 x1 (fun x2 w =>
 load1W x2 (fun x3 w =>
 binIntW .lss x3 (Value.int .i64 0) (fun x4 w =>
 gW x4 false (fun K w => addW 0 x1 K w) (fun x5 w =>
 gW x4 false (fun K w => load1W x5 K w) (fun x6 w =>
 gW x4 false (fun K w => binIntW .geq x6 (Value.int .i64 16) K w) (fun x7 w =>
 pickW x4 (Value.bool true) x7 (fun x8 w =>
 gW x8 false (fun K w => addW 1 x1 K w) (fun x9 w =>
 gW x8 false (fun K w => load1W x9 K w) (fun x10 w =>
 gW x8 false (fun K w => binIntW .geq x10 (Value.int .u64 4611686018427387904) K w) (fun x11 w =>
 pickW x8 (Value.bool true) x11 (fun x12 w =>
 condP x12 (fun w => K (Value.int .i64 1) w) (fun w => loopW1 (Value.int .i64 0) (fun J2 x13 w =>
 nilW a0 (fun x14 w =>
 addW 1 x14 (fun x15 w =>
 load1W x15 (fun x16 w =>
 lenW x16 (fun x17 w =>
 binIntW .lss x13 x17 (fun x18 w =>
 condP x18 (fun w => drewW (fun w => nilW a0 (fun x19 w =>
 addW 1 x19 (fun x20 w =>
 load1W x20 (fun x21 w =>
 idxW 2 x21 x13 (fun x22 w =>
 addW 0 x22 (fun x23 w =>
 load1W x23 (fun x24 w =>
 addW 0 x1 (fun x25 w =>
 load1W x25 (fun x26 w =>
 binIntW .eql x24 x26 (fun x27 w =>
 gW x27 true (fun K w => K a0 w) (fun x28 w =>
 gW x27 true (fun K w => nilW x28 K w) (fun x29 w =>
 gW x27 true (fun K w => addW 1 x29 K w) (fun x30 w =>
 gW x27 true (fun K w => load1W x30 K w) (fun x31 w =>
 gW x27 true (fun K w => K x13 w) (fun x32 w =>
 gW x27 true (fun K w => idxW 2 x31 x32 K w) (fun x33 w =>
 gW x27 true (fun K w => addW 1 x33 K w) (fun x34 w =>
 gW x27 true (fun K w => load1W x34 K w) (fun x35 w =>
 gW x27 true (fun K w => addW 1 x1 K w) (fun x36 w =>
 gW x27 true (fun K w => load1W x36 K w) (fun x37 w =>
 gW x27 true (fun K w => binIntW .eql x35 x37 K w) (fun x38 w =>
 pickW x27 x38 (Value.bool false) (fun x39 w =>
 condP x39 (fun w => K (Value.int .i64 0) w) (fun w => drewW (fun w => nilW a0 (fun x40 w =>
 addW 1 x40 (fun x41 w =>
 load1W x41 (fun x42 w =>
 idxW 2 x42 x13 (fun x43 w =>
 addW 0 x43 (fun x44 w =>
 load1W x44 (fun x45 w =>
 addW 0 x1 (fun x46 w =>
 load1W x46 (fun x47 w =>
 binIntW .eql x45 x47 (fun x48 w =>
 condP x48 (fun w => K (Value.int .i64 14) w) (fun w => binIntW .add x13 (Value.int .i64 1) (fun x49 w =>
 J2 x49 w) w) w) w) w) w) w) w) w) w) w) w) w) w) w) w) w) w) w) w) w) w) w) w) w) w) w) w) w) w) w) w) w) w) w) w) (fun w => drewW (fun w => nilW a0 (fun x50 w =>
 addW 1 x50 (fun x51 w =>
 load1W x51 (fun x52 w =>
 lenW x52 (fun x53 w =>
 nilW a0 (fun x54 w =>
 addW 0 x54 (fun x55 w =>
 load1W x55 (fun x56 w =>
 binIntW .geq x53 x56 (fun x57 w =>
 condP x57 (fun w => K (Value.int .i64 5) w) (fun w => drewW (fun w => nilW a0 (fun x58 w =>
 addW 1 x58 (fun x59 w =>
 load1W x59 (fun x60 w =>
 loadNW 2 x1 (fun x61 w =>
 buildSliceW [(Value.int .i64 0), (Value.int .u64 0)] 1 [(0, 2, x61)] (fun x62 w =>
 andP (fun w => andP (fun w => trueP w) (fun w => andP (fun w => load1W x59 (fun v w => eqP v x60 w) w) (fun w => trueP w) w) w) (fun w =>
 appendW 2 16 x60 x62 (fun x63 w =>
 andP (fun w => andP (fun w => trueP w) (fun w => trueP w) w) (fun w =>
 nilW a0 (fun x64 w =>
 addW 1 x64 (fun x65 w =>
 storeW 1 x65 x63 (fun _ w =>
 andP (fun w => trueP w) (fun w =>
 K (Value.int .i64 0) w) w) w) w) w) w) w) w) w) w) w) w) w) w) w) w) w) w) w) w) w) w) w) w) w) w) w) w) w) w) w) w) w) w) w) w) w) w) w) w) w) w) w) w

/-- book_Same_api_Seen -/
def S_book_Same_api_Seen (a0 a1 : Value) (K : KV) : World → Prop := fun w =>
 lenW a0 (fun x1 w =>
 lenW a1 (fun x2 w =>
 binIntW .neq x1 x2 (fun x3 w =>
 condP x3 (fun w => K (Value.bool false) w) (fun w => loopW1 (Value.int .i64 0) (fun J2 x4 w =>
 lenW a0 (fun x5 w =>
 binIntW .lss x4 x5 (fun x6 w =>
 condP x6 (fun w => drewW (fun w => idxW 2 a0 x4 (fun x7 w =>
 loadNW 2 x7 (fun x8 w =>
 idxW 2 a1 x4 (fun x9 w =>
 loadNW 2 x9 (fun x10 w =>
 eqAggW [.i .i64, .i .u64] .neq x8 x10 (fun x11 w =>
 condP x11 (fun w => K (Value.bool false) w) (fun w => binIntW .add x4 (Value.int .i64 1) (fun x12 w =>
 J2 x12 w) w) w) w) w) w) w) w) w) (fun w => K (Value.bool true) w) w) w) w) w) w) w) w) w

/-- ref7_Stands -/
def S_ref7_Stands (a0 a1 : Value) (K : KV) : World → Prop := fun w =>
 loopW1 (Value.int .i64 0) (fun J2 x1 w =>
 lenW a0 (fun x2 w =>
 binIntW .lss x1 x2 (fun x3 w =>
 condP x3 (fun w => idxW 2 a0 x1 (fun x4 w =>
 addW 0 x4 (fun x5 w =>
 load1W x5 (fun x6 w =>
 drewW (fun w => binIntW .lss x6 (Value.int .i64 0) (fun x7 w =>
 gW x7 false (fun K w => K x6 w) (fun x8 w =>
 gW x7 false (fun K w => K a1 w) (fun x9 w =>
 gW x7 false (fun K w => lenW x9 K w) (fun x10 w =>
 gW x7 false (fun K w => binIntW .geq x8 x10 K w) (fun x11 w =>
 pickW x7 (Value.bool true) x11 (fun x12 w =>
 gW x12 false (fun K w => K a1 w) (fun x13 w =>
 gW x12 false (fun K w => K x6 w) (fun x14 w =>
 gW x12 false (fun K w => idxW 3 x13 x14 K w) (fun x15 w =>
 gW x12 false (fun K w => addW 1 x15 K w) (fun x16 w =>
 gW x12 false (fun K w => load1W x16 K w) (fun x17 w =>
 pickW x12 (Value.bool true) x17 (fun x18 w =>
 gW x18 false (fun K w => K a1 w) (fun x19 w =>
 gW x18 false (fun K w => K x6 w) (fun x20 w =>
 gW x18 false (fun K w => idxW 3 x19 x20 K w) (fun x21 w =>
 gW x18 false (fun K w => addW 0 x21 K w) (fun x22 w =>
 gW x18 false (fun K w => load1W x22 K w) (fun x23 w =>
 gW x18 false (fun K w => K a0 w) (fun x24 w =>
 gW x18 false (fun K w => K x1 w) (fun x25 w =>
 gW x18 false (fun K w => idxW 2 x24 x25 K w) (fun x26 w =>
 gW x18 false (fun K w => addW 1 x26 K w) (fun x27 w =>
 gW x18 false (fun K w => load1W x27 K w) (fun x28 w =>
 gW x18 false (fun K w => binIntW .neq x23 x28 K w) (fun x29 w =>
 pickW x18 (Value.bool true) x29 (fun x30 w =>
 condP x30 (fun w => K (Value.bool false) w) (fun w => binIntW .add x1 (Value.int .i64 1) (fun x31 w =>
 J2 x31 w) w) w) w) w) w) w) w) w) w) w) w) w) w) w) w) w) w) w) w) w) w) w) w) w) w) w) w) w) w) w) (fun w => K (Value.bool true) w) w) w) w) w

/-- law5_do -/
def S_law5_do (a0 a1 a2 : Value) (K : KV) : World → Prop := fun w =>
 loopW1 (Value.int .i64 0) (fun J6 x1 w =>
 lenW a2 (fun x2 w =>
 binIntW .lss x1 x2 (fun x3 w =>
 gW x3 true (fun K w => K x1 w) (fun x4 w =>
 gW x3 true (fun K w => binIntW .lss x4 (Value.int .i64 60) K w) (fun x5 w =>
 pickW x3 x5 (Value.bool false) (fun x6 w =>
 condP x6 (fun w => idxW 3 a2 x1 (fun x7 w =>
 loadNW 3 x7 (fun x8 w =>
 newW #[(Value.bool false), (Value.int .i64 0), (Value.int .u64 0)] (fun x9 w =>
 storeW 3 x9 x8 (fun _ w =>
 addW 1 x9 (fun x11 w =>
 load1W x11 (fun x12 w =>
 binIntW .geq x12 (Value.int .i64 0) (fun x13 w =>
 gW x13 true (fun K w => addW 1 x9 K w) (fun x14 w =>
 gW x13 true (fun K w => load1W x14 K w) (fun x15 w =>
 gW x13 true (fun K w => K a1 w) (fun x16 w =>
 gW x13 true (fun K w => lenW x16 K w) (fun x17 w =>
 gW x13 true (fun K w => binIntW .lss x15 x17 K w) (fun x18 w =>
 pickW x13 x18 (Value.bool false) (fun x19 w =>
 addW 0 x9 (fun x20 w =>
 load1W x20 (fun x21 w =>
 joinW0 (fun  w =>
 addW 1 x9 (fun x22 w =>
 load1W x22 (fun x23 w =>
 CP Try.prog Fn.epoch_Slots_Load [a0, x23] (fun x24 w =>
 extractW 0 x24 (fun x25 w =>
 extractW 1 x24 (fun x26 w =>
 binIntW .eql x26 (Value.int .i64 0) (fun x27 w =>
 binBoolW .neq x27 x19 (fun x28 w =>
 gW x28 false (fun K w => K x19 w) (fun x29 w =>
 gW x28 false (fun K w => notW x29 K w) (fun x30 w =>
 gW x28 false (fun K w => K x30 w) (fun x31 w =>
 gW x31 true (fun K w => K x26 w) (fun x32 w =>
 gW x31 true (fun K w => binIntW .neq x32 (Value.int .i64 2) K w) (fun x33 w =>
 gW x31 true (fun K w => K x33 w) (fun x34 w =>
 gW x34 false (fun K w => K x25 w) (fun x35 w =>
 gW x34 false (fun K w => binIntW .neq x35 (Value.int .u64 0) K w) (fun x36 w =>
 gW x31 true (fun K w => pickW x34 (Value.bool true) x36 K w) (fun x37 w =>
 gW x28 false (fun K w => pickW x31 x37 (Value.bool false) K w) (fun x38 w =>
 pickW x28 (Value.bool true) x38 (fun x39 w =>
 gW x39 false (fun K w => K x19 w) (fun x40 w =>
 gW x39 false (fun K w => K x40 w) (fun x41 w =>
 gW x41 true (fun K w => K x25 w) (fun x42 w =>
 gW x41 true (fun K w => K a1 w) (fun x43 w =>
 gW x41 true (fun K w => addW 1 x9 K w) (fun x44 w =>
 gW x41 true (fun K w => load1W x44 K w) (fun x45 w =>
 gW x41 true (fun K w => idxW 1 x43 x45 K w) (fun x46 w =>
 gW x41 true (fun K w => load1W x46 K w) (fun x47 w =>
 gW x41 true (fun K w => binIntW .neq x42 x47 K w) (fun x48 w =>
 gW x39 false (fun K w => pickW x41 x48 (Value.bool false) K w) (fun x49 w =>
 pickW x39 (Value.bool true) x49 (fun x50 w =>
 condP x50 (fun w => K (Value.bool false) w) (fun w => loopW3 (Value.int .u64 0) (Value.bool false) (Value.int .i64 0) (fun J10 x51 x52 x53 w =>
 lenW a1 (fun x54 w =>
 binIntW .lss x53 x54 (fun x55 w =>
 condP x55 (fun w => idxW 1 a1 x53 (fun x56 w =>
 load1W x56 (fun x57 w =>
 binIntW .neq x57 (Value.int .u64 0) (fun x58 w =>
 gW x58 true (fun K w => K x52 w) (fun x59 w =>
 gW x58 true (fun K w => notW x59 K w) (fun x60 w =>
 gW x58 true (fun K w => K x60 w) (fun x61 w =>
 gW x61 false (fun K w => K a1 w) (fun x62 w =>
 gW x61 false (fun K w => K x53 w) (fun x63 w =>
 gW x61 false (fun K w => idxW 1 x62 x63 K w) (fun x64 w =>
 gW x61 false (fun K w => load1W x64 K w) (fun x65 w =>
 gW x61 false (fun K w => K x51 w) (fun x66 w =>
 gW x61 false (fun K w => binIntW .lss x65 x66 K w) (fun x67 w =>
 gW x58 true (fun K w => pickW x61 (Value.bool true) x67 K w) (fun x68 w =>
 pickW x58 x68 (Value.bool false) (fun x69 w =>
 joinW2 (fun x70 x71 w =>
 binIntW .add x53 (Value.int .i64 1) (fun x72 w =>
 J10 x70 x71 x72 w) w) (fun j2 w =>
 condP x69 (fun w => idxW 1 a1 x53 (fun x73 w =>
 load1W x73 (fun x74 w =>
 j2 x74 (Value.bool true) w) w) w) (fun w => j2 x51 x52 w) w) w) w) w) w) w) w) w) w) w) w) w) w) w) w) w) (fun w => CP Try.prog Fn.epoch_Slots_Least [a0] (fun x75 w =>
 extractW 0 x75 (fun x76 w =>
 extractW 1 x75 (fun x77 w =>
 drewW (fun w => binIntW .neq x76 x51 (fun x78 w =>
 gW x78 false (fun K w => K x77 w) (fun x79 w =>
 gW x78 false (fun K w => K x52 w) (fun x80 w =>
 gW x78 false (fun K w => binBoolW .neq x79 x80 K w) (fun x81 w =>
 pickW x78 (Value.bool true) x81 (fun x82 w =>
 gW x82 false (fun K w => K a0 w) (fun x83 w =>
 gW x82 false (fun K w => addW 2 x9 K w) (fun x84 w =>
 gW x82 false (fun K w => load1W x84 K w) (fun x85 w =>
 gW x82 false (fun K w => K a1 w) (fun x86 w =>
 gW x82 false (fun K w => addW 2 x9 K w) (fun x87 w =>
 gW x82 false (fun K w => load1W x87 K w) (fun x88 w =>
 gW x82 false (fun K w => CP Try.prog Fn.epoch_Slots_Passed [x83, x85] K w) (fun x89 w =>
 andP (fun w => andP (fun w => gW x82 false (fun K w => load1W x87 K w) (fun v w => eqP v x88 w) w) (fun w => andP (fun w => trueP w) (fun w => trueP w) w) w) (fun w =>
 gW x82 false (fun K w => CP Try.prog Fn.ref1_Passed [x86, x88] K w) (fun x90 w =>
 andP (fun w => andP (fun w => trueP w) (fun w => trueP w) w) (fun w =>
 gW x82 false (fun K w => binBoolW .neq x89 x90 K w) (fun x91 w =>
 pickW x82 (Value.bool true) x91 (fun x92 w =>
 gW x92 false (fun K w => K a0 w) (fun x93 w =>
 gW x92 false (fun K w => K a1 w) (fun x94 w =>
 gW x92 false (fun K w => CP Try.prog Fn.epoch_Slots_All [x93] K w) (fun x95 w =>
 andP (fun w => trueP w) (fun w =>
 gW x92 false (fun K w => CP Try.prog Fn.book_Same_uint64 [x95, x94] K w) (fun x96 w =>
 andP (fun w => trueP w) (fun w =>
 gW x92 false (fun K w => notW x96 K w) (fun x97 w =>
 pickW x92 (Value.bool true) x97 (fun x98 w =>
 gW x98 false (fun K w => K a0 w) (fun x99 w =>
 gW x98 false (fun K w => K a1 w) (fun x100 w =>
 gW x98 false (fun K w => lenW x100 K w) (fun x101 w =>
 gW x98 false (fun K w => CP Try.prog Fn.epoch_Slots_Len [x99] K w) (fun x102 w =>
 andP (fun w => trueP w) (fun w =>
 gW x98 false (fun K w => binIntW .neq x102 x101 K w) (fun x103 w =>
 pickW x98 (Value.bool true) x103 (fun x104 w =>
 condP x104 (fun w => K (Value.bool false) w) (fun w => binIntW .add x1 (Value.int .i64 1) (fun x105 w =>
 J6 x105 w) w) w) w) w) w) w) w) w) w) w) w) w) w) w) w) w) w) w) w) w) w) w) w) w) w) w) w) w) w) w) w) w) w) w) w) w) w) w) w) w) w) w) w) w) w) w) w) w) w) w) w) w) w) w) w) w) w) w) w) w) w) w) w) w) w) w) w) w) w) w) w) w) (fun j1 w =>
 condP x21 (fun w => addW 1 x9 (fun x106 w =>
 load1W x106 (fun x107 w =>
 addW 2 x9 (fun x108 w =>
 load1W x108 (fun x109 w =>
 CP Try.prog Fn.epoch_Slots_Store [a0, x107, x109] (fun x110 w =>
 binIntW .eql x110 (Value.int .i64 0) (fun x111 w =>
 binBoolW .neq x111 x19 (fun x112 w =>
 gW x112 false (fun K w => K x19 w) (fun x113 w =>
 gW x112 false (fun K w => notW x113 K w) (fun x114 w =>
 gW x112 false (fun K w => K x114 w) (fun x115 w =>
 gW x115 true (fun K w => K x110 w) (fun x116 w =>
 gW x115 true (fun K w => binIntW .neq x116 (Value.int .i64 2) K w) (fun x117 w =>
 gW x112 false (fun K w => pickW x115 x117 (Value.bool false) K w) (fun x118 w =>
 pickW x112 (Value.bool true) x118 (fun x119 w =>
 condP x119 (fun w => K (Value.bool false) w) (fun w => joinW0 (fun  w =>
 j1  w) (fun j3 w =>
 condP x19 (fun w => addW 1 x9 (fun x120 w =>
 load1W x120 (fun x121 w =>
 addW 2 x9 (fun x122 w =>
 load1W x122 (fun x123 w =>
 idxW 1 a1 x121 (fun x124 w =>
 storeW 1 x124 x123 (fun _ w =>
 j3  w) w) w) w) w) w) w) (fun w => j3  w) w) w) w) w) w) w) w) w) w) w) w) w) w) w) w) w) w) (fun w => j1  w) w) w) w) w) w) w) w) w) w) w) w) w) w) w) w) w) w) (fun w => K (Value.bool true) w) w) w) w) w) w) w) w

/-- book_Same_uint64 -/
def S_book_Same_uint64 (a0 a1 : Value) (K : KV) : World → Prop := fun w =>
 lenW a0 (fun x1 w =>
 lenW a1 (fun x2 w =>
 binIntW .neq x1 x2 (fun x3 w =>
 condP x3 (fun w => K (Value.bool false) w) (fun w => loopW1 (Value.int .i64 0) (fun J2 x4 w =>
 lenW a0 (fun x5 w =>
 binIntW .lss x4 x5 (fun x6 w =>
 condP x6 (fun w => drewW (fun w => idxW 1 a0 x4 (fun x7 w =>
 load1W x7 (fun x8 w =>
 idxW 1 a1 x4 (fun x9 w =>
 load1W x9 (fun x10 w =>
 binIntW .neq x8 x10 (fun x11 w =>
 condP x11 (fun w => K (Value.bool false) w) (fun w => binIntW .add x4 (Value.int .i64 1) (fun x12 w =>
 J2 x12 w) w) w) w) w) w) w) w) w) (fun w => K (Value.bool true) w) w) w) w) w) w) w) w) w

/-- heap_Heap_is -/
def S_heap_Heap_is (a0 a1 : Value) (K : KV) : World → Prop := fun w =>
 binIntW .geq a1 (Value.int .i64 1) (fun x1 w =>
 gW x1 true (fun K w => K a1 w) (fun x2 w =>
 gW x1 true (fun K w => K a0 w) (fun x3 w =>
 gW x1 true (fun K w => nilW x3 K w) (fun x4 w =>
 gW x1 true (fun K w => addW 0 x4 K w) (fun x5 w =>
 gW x1 true (fun K w => load1W x5 K w) (fun x6 w =>
 gW x1 true (fun K w => lenW x6 K w) (fun x7 w =>
 gW x1 true (fun K w => binIntW .lss x2 x7 K w) (fun x8 w =>
 pickW x1 x8 (Value.bool false) (fun x9 w =>
 K x9 w) w) w) w) w) w) w) w) w) w

/-- slices_Clone_uint64_uint64 -/
def S_slices_Clone_uint64_uint64 (a0 : Value) (K : KV) : World → Prop := fun w =>
 eqNilSliceW .eql a0 (Value.slice none 0 0) (fun x1 w =>
 condP x1 (fun w => K (Value.slice none 0 0) w) (fun w => buildSliceW [(Value.int .u64 0)] 0 [] (fun x2 w =>
 appendW 1 8 x2 a0 (fun x3 w =>
 K x3 w) w) w) w) w

/-- slices_Clone_api_Rest_api_Rest -/
def S_slices_Clone_api_Rest_api_Rest (a0 : Value) (K : KV) : World → Prop := fun w =>
 eqNilSliceW .eql a0 (Value.slice none 0 0) (fun x1 w =>
 condP x1 (fun w => K (Value.slice none 0 0) w) (fun w => buildSliceW [(Value.int .i64 0), (Value.int .u64 0)] 0 [] (fun x2 w =>
 appendW 2 16 x2 a0 (fun x3 w =>
 K x3 w) w) w) w) w

/-- ref1_Passed -/
def S_ref1_Passed (a0 a1 : Value) (K : KV) : World → Prop := fun w =>
 loopW1 (Value.int .i64 0) (fun J2 x1 w =>
 lenW a0 (fun x2 w =>
 binIntW .lss x1 x2 (fun x3 w =>
 condP x3 (fun w => idxW 1 a0 x1 (fun x4 w =>
 load1W x4 (fun x5 w =>
 binIntW .neq x5 (Value.int .u64 0) (fun x6 w =>
 gW x6 true (fun K w => K a0 w) (fun x7 w =>
 gW x6 true (fun K w => K x1 w) (fun x8 w =>
 gW x6 true (fun K w => idxW 1 x7 x8 K w) (fun x9 w =>
 gW x6 true (fun K w => load1W x9 K w) (fun x10 w =>
 gW x6 true (fun K w => K a1 w) (fun x11 w =>
 gW x6 true (fun K w => binIntW .leq x10 x11 K w) (fun x12 w =>
 pickW x6 x12 (Value.bool false) (fun x13 w =>
 condP x13 (fun w => K (Value.bool false) w) (fun w => binIntW .add x1 (Value.int .i64 1) (fun x14 w =>
 J2 x14 w) w) w) w) w) w) w) w) w) w) w) w) w) (fun w => K (Value.bool true) w) w) w) w) w

/-- epoch_Slots_is -/
def S_epoch_Slots_is (a0 a1 : Value) (K : KV) : World → Prop := fun w =>
 binIntW .geq a1 (Value.int .i64 0) (fun x1 w =>
 gW x1 true (fun K w => K a1 w) (fun x2 w =>
 gW x1 true (fun K w => K a0 w) (fun x3 w =>
 gW x1 true (fun K w => nilW x3 K w) (fun x4 w =>
 gW x1 true (fun K w => addW 0 x4 K w) (fun x5 w =>
 gW x1 true (fun K w => load1W x5 K w) (fun x6 w =>
 gW x1 true (fun K w => lenW x6 K w) (fun x7 w =>
 gW x1 true (fun K w => binIntW .lss x2 x7 K w) (fun x8 w =>
 pickW x1 x8 (Value.bool false) (fun x9 w =>
 K x9 w) w) w) w) w) w) w) w) w) w

/-- slices_Clone_api_Seen_api_Seen -/
def S_slices_Clone_api_Seen_api_Seen (a0 : Value) (K : KV) : World → Prop := fun w =>
 eqNilSliceW .eql a0 (Value.slice none 0 0) (fun x1 w =>
 condP x1 (fun w => K (Value.slice none 0 0) w) (fun w => buildSliceW [(Value.int .i64 0), (Value.int .u64 0)] 0 [] (fun x2 w =>
 appendW 2 16 x2 a0 (fun x3 w =>
 K x3 w) w) w) w) w

/-- book_Within -/
def S_book_Within (a0 a1 a2 : Value) (K : KV) : World → Prop := fun w =>
 binIntW .sub a2 a1 (fun x1 w =>
 binIntW .add x1 (Value.int .i64 1) (fun x2 w =>
 binIntW .rem a0 x2 (fun x3 w =>
 binIntW .lss x3 (Value.int .i64 0) (fun x4 w =>
 joinW1 (fun x5 w =>
 binIntW .add a1 x5 (fun x6 w =>
 K x6 w) w) (fun j1 w =>
 condP x4 (fun w => binIntW .add x3 a2 (fun x7 w =>
 binIntW .sub x7 a1 (fun x8 w =>
 binIntW .add x8 (Value.int .i64 1) (fun x9 w =>
 j1 x9 w) w) w) w) (fun w => j1 x3 w) w) w) w) w) w) w

/-- epoch_Slots_Load -/
def S_epoch_Slots_Load (a0 a1 : Value) (K : KV) : World → Prop := fun w =>
 CP Try.prog Fn.epoch_Slots_is [a0, a1] (fun x1 w =>
 notW x1 (fun x2 w =>
 condP x2 (fun w => K (Value.tuple #[(Value.int .u64 0), (Value.int .i64 2)]) w) (fun w => nilW a0 (fun x3 w =>
 addW 0 x3 (fun x4 w =>
 load1W x4 (fun x5 w =>
 idxW 1 x5 a1 (fun x6 w =>
 load1W x6 (fun x7 w =>
 K (Value.tuple #[x7, (Value.int .i64 0)]) w) w) w) w) w) w) w) w) w

end Go.Proofs.Ytpabihjmjkodbaa.S
