/-
  THE PLAIN FORMS OF THE FUNCTIONS, by a program.
-/
import Derived.Test.YtkghefbdhljgiaaG
import Derived.Test.YtkghefbdhljgiaaSIn
import Derived.Test.YtkghefbdhljgiaaProg
namespace Go.Proofs.Ytkghefbdhljgiaa.S
open Go Go.Proofs
set_option linter.unusedVariables false
set_option maxRecDepth 100000
abbrev Fn.gosem_cut_init : Nat := 2
abbrev Fn.law9_LevelsRuns : Nat := 3
abbrev Fn.law9_LevelsDrop : Nat := 4
abbrev Fn.law9_LevelsKeep : Nat := 5
abbrev Fn.law9_LevelsDeep : Nat := 6
abbrev Fn.law9_LevelsRoom : Nat := 7
abbrev Fn.law9_LevelsPlays : Nat := 8
abbrev Fn.law6_MemRuns : Nat := 9
abbrev Fn.law6_MemStripes : Nat := 10
abbrev Fn.law6_MemPlays : Nat := 11
abbrev Fn.law6_MemApart : Nat := 12
abbrev Fn.law6_MemCopies : Nat := 13
abbrev Fn.levels_New : Nat := 14
abbrev Fn.levels_Levels_Put : Nat := 15
abbrev Fn.levels_Levels_Open : Nat := 16
abbrev Fn.levels_Levels_Get : Nat := 17
abbrev Fn.levels_Levels_Drop : Nat := 18
abbrev Fn.levels_Levels_Free : Nat := 19
abbrev Fn.levels_Levels_Keep : Nat := 20
abbrev Fn.levels_Levels_Cells : Nat := 21
abbrev Fn.levels_Levels_Frees : Nat := 22
abbrev Fn.levels_Levels_Depth : Nat := 23
abbrev Fn.levels_Levels_Room : Nat := 24
abbrev Fn.law9_flat : Nat := 25
abbrev Fn.book_Same_api_Cell : Nat := 26
abbrev Fn.book_Same_int : Nat := 27
abbrev Fn.ref7_NewLevels : Nat := 28
abbrev Fn.law9_do : Nat := 29
abbrev Fn.law9_same : Nat := 30
abbrev Fn.mem_New : Nat := 31
abbrev Fn.mem_Mem_Do : Nat := 32
abbrev Fn.mem_Mem_Count : Nat := 33
abbrev Fn.mem_Mem_Now : Nat := 34
abbrev Fn.mem_Mem_Stripe : Nat := 35
abbrev Fn.mem_Mem_Words : Nat := 36
abbrev Fn.mem_Mem_Locks : Nat := 37
abbrev Fn.mem_Mem_Slots : Nat := 38
abbrev Fn.mem_Mem_Copy : Nat := 39
abbrev Fn.ref1_Of : Nat := 40
abbrev Fn.ref1_NewMem : Nat := 41
abbrev Fn.mem_Held : Nat := 42
abbrev Fn.law6_same : Nat := 43
abbrev Fn.law6_do : Nat := 44
abbrev Fn.law6_near : Nat := 45
abbrev Fn.ref1_Mem_Copy : Nat := 46
abbrev Fn.levels_fresh : Nat := 47
abbrev Fn.levels_Levels_in : Nat := 48
abbrev Fn.writes_Writes_Get : Nat := 49
abbrev Fn.writes_Writes_Put : Nat := 50
abbrev Fn.slices_Backward_levels_level_levels_level : Nat := 51
abbrev Fn.writes_Writes_Take : Nat := 52
abbrev Fn.writes_Writes_All : Nat := 53
abbrev Fn.writes_New : Nat := 54
abbrev Fn.writes_Writes_Len : Nat := 55
abbrev Fn.book_Within : Nat := 56
abbrev Fn.ref1_Held : Nat := 57
abbrev Fn.ref7_Levels_Open : Nat := 58
abbrev Fn.ref7_Levels_Keep : Nat := 59
abbrev Fn.ref7_Levels_Drop : Nat := 60
abbrev Fn.ref7_Levels_Free : Nat := 61
abbrev Fn.law9_place : Nat := 62
abbrev Fn.levels_Levels_Take : Nat := 63
abbrev Fn.ref7_Levels_Take : Nat := 64
abbrev Fn.ref7_Levels_Put : Nat := 65
abbrev Fn.ref7_Levels_Whole : Nat := 66
abbrev Fn.ref7_Levels_Get : Nat := 67
abbrev Fn.ref7_Levels_Room : Nat := 68
abbrev Fn.heap_New : Nat := 69
abbrev Fn.stripe_New : Nat := 70
abbrev Fn.clock_New : Nat := 71
abbrev Fn.epoch_New : Nat := 72
abbrev Fn.mem_Mem_do : Nat := 73
abbrev Fn.clock_Clock_Load : Nat := 74
abbrev Fn.stripe_Table_Of : Nat := 75
abbrev Fn.heap_Heap_All : Nat := 76
abbrev Fn.stripe_Table_All : Nat := 77
abbrev Fn.epoch_Slots_All : Nat := 78
abbrev Fn.heap_Heap_Copy : Nat := 79
abbrev Fn.stripe_Table_Copy : Nat := 80
abbrev Fn.clock_Clock_Copy : Nat := 81
abbrev Fn.epoch_Slots_Copy : Nat := 82
abbrev Fn.ref1_Shape : Nat := 83
abbrev Fn.book_Same_uint64 : Nat := 84
abbrev Fn.book_Same_api_Lock : Nat := 85
abbrev Fn.mem_Mem_Shape : Nat := 86
abbrev Fn.ref1_Mem_Do : Nat := 87
abbrev Fn.writes_Writes_find : Nat := 88
abbrev Fn.slices_Backward_levels_level_levels_level_1 : Nat := 89
abbrev Fn.slices_Clone_api_Cell_api_Cell : Nat := 90
abbrev Fn.ref7_Put : Nat := 91
abbrev Fn.ref7_Levels_Copy : Nat := 92
abbrev Fn.ref7_Place : Nat := 93
abbrev Fn.stripe_near : Nat := 94
abbrev Fn.heap_Heap_Load : Nat := 95
abbrev Fn.heap_Heap_Store : Nat := 96
abbrev Fn.stripe_Table_Load : Nat := 97
abbrev Fn.stripe_Table_Cas : Nat := 98
abbrev Fn.stripe_Table_Store : Nat := 99
abbrev Fn.clock_Clock_Cas : Nat := 100
abbrev Fn.epoch_Slots_Load : Nat := 101
abbrev Fn.epoch_Slots_Store : Nat := 102
abbrev Fn.stripe_Of : Nat := 103
abbrev Fn.slices_Clone_uint64_uint64 : Nat := 104
abbrev Fn.slices_Clone_api_Lock_api_Lock : Nat := 105
abbrev Fn.ref1_Mem_word : Nat := 106
abbrev Fn.ref1_Mem_lock : Nat := 107
abbrev Fn.ref1_Mem_clock : Nat := 108
abbrev Fn.slices_IndexFunc_api_Cell_api_Cell : Nat := 109
abbrev Fn.writes_Writes_find_1 : Nat := 110
abbrev Fn.heap_Heap_is : Nat := 111
abbrev Fn.stripe_Table_is : Nat := 112
abbrev Fn.stripe_Table_may : Nat := 113
abbrev Fn.epoch_Slots_is : Nat := 114
abbrev Fn.ref1_IsLock : Nat := 115
abbrev Fn.lock_Is : Nat := 116
abbrev Fn.lock_owns : Nat := 117

/-- law9_LevelsRuns -/
def S_law9_LevelsRuns (K : KV) : World → Prop := fun w =>
 CP Try.prog Fn.levels_New [(Value.int .i64 5)] (fun x1 w =>
 eqNilW .eql x1 (Value.pointer none) (fun x2 w =>
 condP x2 (fun w => K (Value.bool false) w) (fun w => CP Try.prog Fn.levels_Levels_Put [x1, (Value.int .i64 9), (Value.int .u64 1)] (fun x3 w =>
 CP Try.prog Fn.levels_Levels_Open [x1] (fun x4 w =>
 CP Try.prog Fn.levels_Levels_Put [x1, (Value.int .i64 9), (Value.int .u64 2)] (fun x5 w =>
 CP Try.prog Fn.levels_Levels_Get [x1, (Value.int .i64 9)] (fun x6 w =>
 extractW 0 x6 (fun x7 w =>
 extractW 1 x6 (fun x8 w =>
 CP Try.prog Fn.levels_Levels_Drop [x1] (fun x9 w =>
 CP Try.prog Fn.levels_Levels_Get [x1, (Value.int .i64 9)] (fun x10 w =>
 extractW 0 x10 (fun x11 w =>
 extractW 1 x10 (fun x12 w =>
 CP Try.prog Fn.levels_Levels_Open [x1] (fun x13 w =>
 CP Try.prog Fn.levels_Levels_Put [x1, (Value.int .i64 9), (Value.int .u64 3)] (fun x14 w =>
 CP Try.prog Fn.levels_Levels_Free [x1, (Value.int .i64 4)] (fun x15 w =>
 CP Try.prog Fn.levels_Levels_Keep [x1] (fun x16 w =>
 CP Try.prog Fn.levels_Levels_Cells [x1] (fun x17 w =>
 CP Try.prog Fn.levels_Levels_Frees [x1] (fun x18 w =>
 binIntW .eql x3 (Value.int .i64 0) (fun x19 w =>
 gW x19 true (fun K w => K x4 w) (fun x20 w =>
 gW x19 true (fun K w => binIntW .eql x20 (Value.int .i64 0) K w) (fun x21 w =>
 pickW x19 x21 (Value.bool false) (fun x22 w =>
 gW x22 true (fun K w => K x5 w) (fun x23 w =>
 gW x22 true (fun K w => binIntW .eql x23 (Value.int .i64 0) K w) (fun x24 w =>
 pickW x22 x24 (Value.bool false) (fun x25 w =>
 gW x25 true (fun K w => K x7 w) (fun x26 w =>
 gW x25 true (fun K w => binIntW .eql x26 (Value.int .u64 2) K w) (fun x27 w =>
 pickW x25 x27 (Value.bool false) (fun x28 w =>
 gW x28 true (fun K w => K x9 w) (fun x29 w =>
 gW x28 true (fun K w => binIntW .eql x29 (Value.int .i64 0) K w) (fun x30 w =>
 pickW x28 x30 (Value.bool false) (fun x31 w =>
 gW x31 true (fun K w => K x11 w) (fun x32 w =>
 gW x31 true (fun K w => binIntW .eql x32 (Value.int .u64 1) K w) (fun x33 w =>
 pickW x31 x33 (Value.bool false) (fun x34 w =>
 gW x34 true (fun K w => K x16 w) (fun x35 w =>
 gW x34 true (fun K w => binIntW .eql x35 (Value.int .i64 0) K w) (fun x36 w =>
 pickW x34 x36 (Value.bool false) (fun x37 w =>
 gW x37 true (fun K w => K x17 w) (fun x38 w =>
 gW x37 true (fun K w => lenW x38 K w) (fun x39 w =>
 gW x37 true (fun K w => binIntW .eql x39 (Value.int .i64 1) K w) (fun x40 w =>
 pickW x37 x40 (Value.bool false) (fun x41 w =>
 gW x41 true (fun K w => K x17 w) (fun x42 w =>
 gW x41 true (fun K w => idxW 2 x42 (Value.int .i64 0) K w) (fun x43 w =>
 gW x41 true (fun K w => loadNW 2 x43 K w) (fun x44 w =>
 gW x41 true (fun K w => buildW [(Value.int .i64 0), (Value.int .u64 0)] [(0, 1, (Value.int .i64 9)), (1, 1, (Value.int .u64 3))] K w) (fun x45 w =>
 gW x41 true (fun K w => eqAggW [.i .i64, .i .u64] .eql x44 x45 K w) (fun x46 w =>
 pickW x41 x46 (Value.bool false) (fun x47 w =>
 gW x47 true (fun K w => K x18 w) (fun x48 w =>
 gW x47 true (fun K w => lenW x48 K w) (fun x49 w =>
 gW x47 true (fun K w => binIntW .eql x49 (Value.int .i64 1) K w) (fun x50 w =>
 pickW x47 x50 (Value.bool false) (fun x51 w =>
 gW x51 true (fun K w => K x18 w) (fun x52 w =>
 gW x51 true (fun K w => idxW 1 x52 (Value.int .i64 0) K w) (fun x53 w =>
 gW x51 true (fun K w => load1W x53 K w) (fun x54 w =>
 gW x51 true (fun K w => binIntW .eql x54 (Value.int .i64 4) K w) (fun x55 w =>
 pickW x51 x55 (Value.bool false) (fun x56 w =>
 gW x56 true (fun K w => K x1 w) (fun x57 w =>
 gW x56 true (fun K w => CP Try.prog Fn.levels_Levels_Depth [x57] K w) (fun x58 w =>
 gW x56 true (fun K w => binIntW .eql x58 (Value.int .i64 1) K w) (fun x59 w =>
 pickW x56 x59 (Value.bool false) (fun x60 w =>
 gW x60 true (fun K w => K x1 w) (fun x61 w =>
 gW x60 true (fun K w => CP Try.prog Fn.levels_Levels_Room [x61] K w) (fun x62 w =>
 gW x60 true (fun K w => binIntW .eql x62 (Value.int .i64 4) K w) (fun x63 w =>
 pickW x60 x63 (Value.bool false) (fun x64 w =>
 gW x64 true (fun K w => K x1 w) (fun x65 w =>
 gW x64 true (fun K w => CP Try.prog Fn.levels_Levels_Keep [x65] K w) (fun x66 w =>
 gW x64 true (fun K w => binIntW .eql x66 (Value.int .i64 10) K w) (fun x67 w =>
 pickW x64 x67 (Value.bool false) (fun x68 w =>
 K x68 w) w) w) w) w) w) w) w) w) w) w) w) w) w) w) w) w) w) w) w) w) w) w) w) w) w) w) w) w) w) w) w) w) w) w) w) w) w) w) w) w) w) w) w) w) w) w) w) w) w) w) w) w) w) w) w) w) w) w) w) w) w) w) w) w) w) w) w) w) w

/-- law9_LevelsDrop -/
def S_law9_LevelsDrop (a0 a1 a2 : Value) (K : KV) : World → Prop := fun w =>
 CP Try.prog Fn.law9_LevelsRuns [] (fun x1 w =>
 notW x1 (fun x2 w =>
 condP x2 (fun w => K (Value.bool false) w) (fun w => CP Try.prog Fn.levels_New [(Value.int .i64 96)] (fun x3 w =>
 eqNilW .eql x3 (Value.pointer none) (fun x4 w =>
 gW x4 false (fun K w => K x3 w) (fun x5 w =>
 gW x4 false (fun K w => K a0 w) (fun x6 w =>
 gW x4 false (fun K w => CP Try.prog Fn.law9_flat [x5, x6] K w) (fun x7 w =>
 gW x4 false (fun K w => notW x7 K w) (fun x8 w =>
 pickW x4 (Value.bool true) x8 (fun x9 w =>
 condP x9 (fun w => K (Value.bool false) w) (fun w => CP Try.prog Fn.levels_Levels_Cells [x3] (fun x10 w =>
 CP Try.prog Fn.levels_Levels_Frees [x3] (fun x11 w =>
 CP Try.prog Fn.levels_Levels_Room [x3] (fun x12 w =>
 CP Try.prog Fn.levels_Levels_Open [x3] (fun x13 w =>
 binIntW .neq x13 (Value.int .i64 0) (fun x14 w =>
 gW x14 false (fun K w => K x3 w) (fun x15 w =>
 gW x14 false (fun K w => K a1 w) (fun x16 w =>
 gW x14 false (fun K w => CP Try.prog Fn.law9_flat [x15, x16] K w) (fun x17 w =>
 gW x14 false (fun K w => notW x17 K w) (fun x18 w =>
 pickW x14 (Value.bool true) x18 (fun x19 w =>
 gW x19 false (fun K w => K x3 w) (fun x20 w =>
 gW x19 false (fun K w => CP Try.prog Fn.levels_Levels_Open [x20] K w) (fun x21 w =>
 gW x19 false (fun K w => binIntW .neq x21 (Value.int .i64 0) K w) (fun x22 w =>
 pickW x19 (Value.bool true) x22 (fun x23 w =>
 gW x23 false (fun K w => K x3 w) (fun x24 w =>
 gW x23 false (fun K w => K a2 w) (fun x25 w =>
 gW x23 false (fun K w => CP Try.prog Fn.law9_flat [x24, x25] K w) (fun x26 w =>
 gW x23 false (fun K w => notW x26 K w) (fun x27 w =>
 pickW x23 (Value.bool true) x27 (fun x28 w =>
 gW x28 false (fun K w => K x3 w) (fun x29 w =>
 gW x28 false (fun K w => CP Try.prog Fn.levels_Levels_Keep [x29] K w) (fun x30 w =>
 gW x28 false (fun K w => binIntW .neq x30 (Value.int .i64 0) K w) (fun x31 w =>
 pickW x28 (Value.bool true) x31 (fun x32 w =>
 gW x32 false (fun K w => K x3 w) (fun x33 w =>
 gW x32 false (fun K w => CP Try.prog Fn.levels_Levels_Drop [x33] K w) (fun x34 w =>
 gW x32 false (fun K w => binIntW .neq x34 (Value.int .i64 0) K w) (fun x35 w =>
 pickW x32 (Value.bool true) x35 (fun x36 w =>
 condP x36 (fun w => K (Value.bool false) w) (fun w => CP Try.prog Fn.levels_Levels_Cells [x3] (fun x37 w =>
 CP Try.prog Fn.book_Same_api_Cell [x37, x10] (fun x38 w =>
 gW x38 true (fun K w => K x3 w) (fun x39 w =>
 gW x38 true (fun K w => CP Try.prog Fn.levels_Levels_Frees [x39] K w) (fun x40 w =>
 gW x38 true (fun K w => K x11 w) (fun x41 w =>
 gW x38 true (fun K w => CP Try.prog Fn.book_Same_int [x40, x41] K w) (fun x42 w =>
 pickW x38 x42 (Value.bool false) (fun x43 w =>
 gW x43 true (fun K w => K x3 w) (fun x44 w =>
 gW x43 true (fun K w => CP Try.prog Fn.levels_Levels_Room [x44] K w) (fun x45 w =>
 gW x43 true (fun K w => K x12 w) (fun x46 w =>
 gW x43 true (fun K w => binIntW .eql x45 x46 K w) (fun x47 w =>
 pickW x43 x47 (Value.bool false) (fun x48 w =>
 gW x48 true (fun K w => K x3 w) (fun x49 w =>
 gW x48 true (fun K w => CP Try.prog Fn.levels_Levels_Depth [x49] K w) (fun x50 w =>
 gW x48 true (fun K w => binIntW .eql x50 (Value.int .i64 1) K w) (fun x51 w =>
 pickW x48 x51 (Value.bool false) (fun x52 w =>
 K x52 w) w) w) w) w) w) w) w) w) w) w) w) w) w) w) w) w) w) w) w) w) w) w) w) w) w) w) w) w) w) w) w) w) w) w) w) w) w) w) w) w) w) w) w) w) w) w) w) w) w) w) w) w) w) w) w

/-- law9_LevelsKeep -/
def S_law9_LevelsKeep (a0 a1 a2 : Value) (K : KV) : World → Prop := fun w =>
 CP Try.prog Fn.law9_LevelsRuns [] (fun x1 w =>
 notW x1 (fun x2 w =>
 condP x2 (fun w => K (Value.bool false) w) (fun w => CP Try.prog Fn.levels_New [(Value.int .i64 96)] (fun x3 w =>
 CP Try.prog Fn.levels_New [(Value.int .i64 96)] (fun x4 w =>
 eqNilW .eql x3 (Value.pointer none) (fun x5 w =>
 gW x5 false (fun K w => K x4 w) (fun x6 w =>
 gW x5 false (fun K w => eqNilW .eql x6 (Value.pointer none) K w) (fun x7 w =>
 pickW x5 (Value.bool true) x7 (fun x8 w =>
 condP x8 (fun w => K (Value.bool false) w) (fun w => CP Try.prog Fn.law9_flat [x3, a0] (fun x9 w =>
 notW x9 (fun x10 w =>
 gW x10 false (fun K w => K x3 w) (fun x11 w =>
 gW x10 false (fun K w => CP Try.prog Fn.levels_Levels_Open [x11] K w) (fun x12 w =>
 gW x10 false (fun K w => binIntW .neq x12 (Value.int .i64 0) K w) (fun x13 w =>
 pickW x10 (Value.bool true) x13 (fun x14 w =>
 gW x14 false (fun K w => K x3 w) (fun x15 w =>
 gW x14 false (fun K w => K a1 w) (fun x16 w =>
 gW x14 false (fun K w => CP Try.prog Fn.law9_flat [x15, x16] K w) (fun x17 w =>
 gW x14 false (fun K w => notW x17 K w) (fun x18 w =>
 pickW x14 (Value.bool true) x18 (fun x19 w =>
 gW x19 false (fun K w => K x3 w) (fun x20 w =>
 gW x19 false (fun K w => CP Try.prog Fn.levels_Levels_Open [x20] K w) (fun x21 w =>
 gW x19 false (fun K w => binIntW .neq x21 (Value.int .i64 0) K w) (fun x22 w =>
 pickW x19 (Value.bool true) x22 (fun x23 w =>
 gW x23 false (fun K w => K x3 w) (fun x24 w =>
 gW x23 false (fun K w => K a2 w) (fun x25 w =>
 gW x23 false (fun K w => CP Try.prog Fn.law9_flat [x24, x25] K w) (fun x26 w =>
 gW x23 false (fun K w => notW x26 K w) (fun x27 w =>
 pickW x23 (Value.bool true) x27 (fun x28 w =>
 condP x28 (fun w => K (Value.bool false) w) (fun w => CP Try.prog Fn.law9_flat [x4, a0] (fun x29 w =>
 notW x29 (fun x30 w =>
 gW x30 false (fun K w => K x4 w) (fun x31 w =>
 gW x30 false (fun K w => K a1 w) (fun x32 w =>
 gW x30 false (fun K w => CP Try.prog Fn.law9_flat [x31, x32] K w) (fun x33 w =>
 gW x30 false (fun K w => notW x33 K w) (fun x34 w =>
 pickW x30 (Value.bool true) x34 (fun x35 w =>
 gW x35 false (fun K w => K x4 w) (fun x36 w =>
 gW x35 false (fun K w => K a2 w) (fun x37 w =>
 gW x35 false (fun K w => CP Try.prog Fn.law9_flat [x36, x37] K w) (fun x38 w =>
 gW x35 false (fun K w => notW x38 K w) (fun x39 w =>
 pickW x35 (Value.bool true) x39 (fun x40 w =>
 condP x40 (fun w => K (Value.bool false) w) (fun w => CP Try.prog Fn.levels_Levels_Cells [x3] (fun x41 w =>
 CP Try.prog Fn.levels_Levels_Frees [x3] (fun x42 w =>
 CP Try.prog Fn.levels_Levels_Keep [x3] (fun x43 w =>
 binIntW .neq x43 (Value.int .i64 0) (fun x44 w =>
 gW x44 false (fun K w => K x3 w) (fun x45 w =>
 gW x44 false (fun K w => CP Try.prog Fn.levels_Levels_Keep [x45] K w) (fun x46 w =>
 gW x44 false (fun K w => binIntW .neq x46 (Value.int .i64 0) K w) (fun x47 w =>
 pickW x44 (Value.bool true) x47 (fun x48 w =>
 gW x48 false (fun K w => K x3 w) (fun x49 w =>
 gW x48 false (fun K w => CP Try.prog Fn.levels_Levels_Keep [x49] K w) (fun x50 w =>
 gW x48 false (fun K w => binIntW .neq x50 (Value.int .i64 10) K w) (fun x51 w =>
 pickW x48 (Value.bool true) x51 (fun x52 w =>
 condP x52 (fun w => K (Value.bool false) w) (fun w => CP Try.prog Fn.levels_Levels_Cells [x4] (fun x53 w =>
 CP Try.prog Fn.book_Same_api_Cell [x41, x53] (fun x54 w =>
 gW x54 true (fun K w => K x3 w) (fun x55 w =>
 gW x54 true (fun K w => CP Try.prog Fn.levels_Levels_Cells [x55] K w) (fun x56 w =>
 gW x54 true (fun K w => K x41 w) (fun x57 w =>
 gW x54 true (fun K w => CP Try.prog Fn.book_Same_api_Cell [x56, x57] K w) (fun x58 w =>
 pickW x54 x58 (Value.bool false) (fun x59 w =>
 gW x59 true (fun K w => K x42 w) (fun x60 w =>
 gW x59 true (fun K w => K x4 w) (fun x61 w =>
 gW x59 true (fun K w => CP Try.prog Fn.levels_Levels_Frees [x61] K w) (fun x62 w =>
 gW x59 true (fun K w => CP Try.prog Fn.book_Same_int [x60, x62] K w) (fun x63 w =>
 pickW x59 x63 (Value.bool false) (fun x64 w =>
 gW x64 true (fun K w => K x3 w) (fun x65 w =>
 gW x64 true (fun K w => CP Try.prog Fn.levels_Levels_Frees [x65] K w) (fun x66 w =>
 gW x64 true (fun K w => K x42 w) (fun x67 w =>
 gW x64 true (fun K w => CP Try.prog Fn.book_Same_int [x66, x67] K w) (fun x68 w =>
 pickW x64 x68 (Value.bool false) (fun x69 w =>
 gW x69 true (fun K w => K x3 w) (fun x70 w =>
 gW x69 true (fun K w => CP Try.prog Fn.levels_Levels_Room [x70] K w) (fun x71 w =>
 gW x69 true (fun K w => K x4 w) (fun x72 w =>
 gW x69 true (fun K w => CP Try.prog Fn.levels_Levels_Room [x72] K w) (fun x73 w =>
 gW x69 true (fun K w => binIntW .eql x71 x73 K w) (fun x74 w =>
 pickW x69 x74 (Value.bool false) (fun x75 w =>
 K x75 w) w) w) w) w) w) w) w) w) w) w) w) w) w) w) w) w) w) w) w) w) w) w) w) w) w) w) w) w) w) w) w) w) w) w) w) w) w) w) w) w) w) w) w) w) w) w) w) w) w) w) w) w) w) w) w) w) w) w) w) w) w) w) w) w) w) w) w) w) w) w) w) w) w) w) w) w) w) w) w) w

/-- law9_LevelsDeep -/
def S_law9_LevelsDeep (a0 a1 : Value) (K : KV) : World → Prop := fun w =>
 CP Try.prog Fn.law9_LevelsRuns [] (fun x1 w =>
 notW x1 (fun x2 w =>
 condP x2 (fun w => K (Value.bool false) w) (fun w => CP Try.prog Fn.levels_New [(Value.int .i64 5)] (fun x3 w =>
 eqNilW .eql x3 (Value.pointer none) (fun x4 w =>
 condP x4 (fun w => K (Value.bool false) w) (fun w => binIntW .rem a0 (Value.int .u8 9) (fun x5 w =>
 convW .i64 x5 (fun x6 w =>
 loopW1 (Value.int .i64 1) (fun J1 x7 w =>
 binIntW .leq x7 x6 (fun x8 w =>
 condP x8 (fun w => CP Try.prog Fn.levels_Levels_Open [x3] (fun x9 w =>
 binIntW .eql x9 (Value.int .i64 0) (fun x10 w =>
 binIntW .lss x7 (Value.int .i64 6) (fun x11 w =>
 binBoolW .neq x10 x11 (fun x12 w =>
 gW x12 false (fun K w => K x9 w) (fun x13 w =>
 gW x12 false (fun K w => binIntW .neq x13 (Value.int .i64 0) K w) (fun x14 w =>
 gW x12 false (fun K w => K x14 w) (fun x15 w =>
 gW x15 true (fun K w => K x9 w) (fun x16 w =>
 gW x15 true (fun K w => binIntW .neq x16 (Value.int .i64 9) K w) (fun x17 w =>
 gW x12 false (fun K w => pickW x15 x17 (Value.bool false) K w) (fun x18 w =>
 pickW x12 (Value.bool true) x18 (fun x19 w =>
 gW x19 false (fun K w => K x3 w) (fun x20 w =>
 gW x19 false (fun K w => CP Try.prog Fn.levels_Levels_Depth [x20] K w) (fun x21 w =>
 gW x19 false (fun K w => K x7 w) (fun x22 w =>
 gW x19 false (fun K w => binIntW .add x22 (Value.int .i64 1) K w) (fun x23 w =>
 gW x19 false (fun K w => minW x23 [(Value.int .i64 6)] K w) (fun x24 w =>
 gW x19 false (fun K w => binIntW .neq x21 x24 K w) (fun x25 w =>
 pickW x19 (Value.bool true) x25 (fun x26 w =>
 condP x26 (fun w => K (Value.bool false) w) (fun w => binIntW .add x7 (Value.int .i64 1) (fun x27 w =>
 J1 x27 w) w) w) w) w) w) w) w) w) w) w) w) w) w) w) w) w) w) w) w) w) (fun w => CP Try.prog Fn.levels_Levels_Depth [x3] (fun x28 w =>
 loopW1 x28 (fun J2 x29 w =>
 binIntW .gtr x29 (Value.int .i64 1) (fun x30 w =>
 condP x30 (fun w => convW .u64 x29 (fun x31 w =>
 binIntW .shr a1 x31 (fun x32 w =>
 binIntW .and x32 (Value.int .u8 1) (fun x33 w =>
 binIntW .eql x33 (Value.int .u8 1) (fun x34 w =>
 gW x34 true (fun K w => K x3 w) (fun x35 w =>
 gW x34 true (fun K w => CP Try.prog Fn.levels_Levels_Keep [x35] K w) (fun x36 w =>
 gW x34 true (fun K w => binIntW .neq x36 (Value.int .i64 0) K w) (fun x37 w =>
 pickW x34 x37 (Value.bool false) (fun x38 w =>
 gW x38 false (fun K w => K a1 w) (fun x39 w =>
 gW x38 false (fun K w => K x29 w) (fun x40 w =>
 gW x38 false (fun K w => convW .u64 x40 K w) (fun x41 w =>
 gW x38 false (fun K w => binIntW .shr x39 x41 K w) (fun x42 w =>
 gW x38 false (fun K w => binIntW .and x42 (Value.int .u8 1) K w) (fun x43 w =>
 gW x38 false (fun K w => binIntW .eql x43 (Value.int .u8 0) K w) (fun x44 w =>
 gW x38 false (fun K w => K x44 w) (fun x45 w =>
 gW x45 true (fun K w => K x3 w) (fun x46 w =>
 gW x45 true (fun K w => CP Try.prog Fn.levels_Levels_Drop [x46] K w) (fun x47 w =>
 gW x45 true (fun K w => binIntW .neq x47 (Value.int .i64 0) K w) (fun x48 w =>
 gW x38 false (fun K w => pickW x45 x48 (Value.bool false) K w) (fun x49 w =>
 pickW x38 (Value.bool true) x49 (fun x50 w =>
 gW x50 false (fun K w => K x3 w) (fun x51 w =>
 gW x50 false (fun K w => CP Try.prog Fn.levels_Levels_Depth [x51] K w) (fun x52 w =>
 gW x50 false (fun K w => K x29 w) (fun x53 w =>
 gW x50 false (fun K w => binIntW .sub x53 (Value.int .i64 1) K w) (fun x54 w =>
 gW x50 false (fun K w => binIntW .neq x52 x54 K w) (fun x55 w =>
 pickW x50 (Value.bool true) x55 (fun x56 w =>
 condP x56 (fun w => K (Value.bool false) w) (fun w => binIntW .sub x29 (Value.int .i64 1) (fun x57 w =>
 J2 x57 w) w) w) w) w) w) w) w) w) w) w) w) w) w) w) w) w) w) w) w) w) w) w) w) w) w) w) w) w) (fun w => CP Try.prog Fn.levels_Levels_Keep [x3] (fun x58 w =>
 binIntW .eql x58 (Value.int .i64 10) (fun x59 w =>
 gW x59 true (fun K w => K x3 w) (fun x60 w =>
 gW x59 true (fun K w => CP Try.prog Fn.levels_Levels_Drop [x60] K w) (fun x61 w =>
 gW x59 true (fun K w => binIntW .eql x61 (Value.int .i64 10) K w) (fun x62 w =>
 pickW x59 x62 (Value.bool false) (fun x63 w =>
 gW x63 true (fun K w => K x3 w) (fun x64 w =>
 gW x63 true (fun K w => CP Try.prog Fn.levels_Levels_Cells [x64] K w) (fun x65 w =>
 gW x63 true (fun K w => lenW x65 K w) (fun x66 w =>
 gW x63 true (fun K w => binIntW .eql x66 (Value.int .i64 0) K w) (fun x67 w =>
 pickW x63 x67 (Value.bool false) (fun x68 w =>
 K x68 w) w) w) w) w) w) w) w) w) w) w) w) w) w) w) w) w) w) w) w) w) w) w) w) w) w) w

/-- law9_LevelsRoom -/
def S_law9_LevelsRoom (a0 a1 : Value) (K : KV) : World → Prop := fun w =>
 CP Try.prog Fn.law9_LevelsRuns [] (fun x1 w =>
 notW x1 (fun x2 w =>
 condP x2 (fun w => K (Value.bool false) w) (fun w => binIntW .rem a0 (Value.int .u8 30) (fun x3 w =>
 convW .i64 x3 (fun x4 w =>
 CP Try.prog Fn.levels_New [x4] (fun x5 w =>
 eqNilW .eql x5 (Value.pointer none) (fun x6 w =>
 condP x6 (fun w => K (Value.bool false) w) (fun w => loopW1 (Value.int .i64 1) (fun J1 x7 w =>
 binIntW .add x4 (Value.int .i64 2) (fun x8 w =>
 binIntW .leq x7 x8 (fun x9 w =>
 condP x9 (fun w => binIntW .leq x7 (Value.int .i64 5) (fun x10 w =>
 gW x10 true (fun K w => K a1 w) (fun x11 w =>
 gW x10 true (fun K w => K x7 w) (fun x12 w =>
 gW x10 true (fun K w => convW .u64 x12 K w) (fun x13 w =>
 gW x10 true (fun K w => binIntW .shr x11 x13 K w) (fun x14 w =>
 gW x10 true (fun K w => binIntW .and x14 (Value.int .u16 1) K w) (fun x15 w =>
 gW x10 true (fun K w => binIntW .eql x15 (Value.int .u16 1) K w) (fun x16 w =>
 pickW x10 x16 (Value.bool false) (fun x17 w =>
 gW x17 true (fun K w => K x5 w) (fun x18 w =>
 gW x17 true (fun K w => CP Try.prog Fn.levels_Levels_Open [x18] K w) (fun x19 w =>
 gW x17 true (fun K w => binIntW .neq x19 (Value.int .i64 0) K w) (fun x20 w =>
 pickW x17 x20 (Value.bool false) (fun x21 w =>
 condP x21 (fun w => K (Value.bool false) w) (fun w => CP Try.prog Fn.levels_Levels_Put [x5, x7, (Value.int .u64 7)] (fun x22 w =>
 binIntW .eql x22 (Value.int .i64 0) (fun x23 w =>
 binIntW .leq x7 x4 (fun x24 w =>
 binBoolW .neq x23 x24 (fun x25 w =>
 gW x25 false (fun K w => K x22 w) (fun x26 w =>
 gW x25 false (fun K w => binIntW .neq x26 (Value.int .i64 0) K w) (fun x27 w =>
 gW x25 false (fun K w => K x27 w) (fun x28 w =>
 gW x28 true (fun K w => K x22 w) (fun x29 w =>
 gW x28 true (fun K w => binIntW .neq x29 (Value.int .i64 5) K w) (fun x30 w =>
 gW x25 false (fun K w => pickW x28 x30 (Value.bool false) K w) (fun x31 w =>
 pickW x25 (Value.bool true) x31 (fun x32 w =>
 gW x32 false (fun K w => K x5 w) (fun x33 w =>
 gW x32 false (fun K w => CP Try.prog Fn.levels_Levels_Room [x33] K w) (fun x34 w =>
 gW x32 false (fun K w => K x4 w) (fun x35 w =>
 gW x32 false (fun K w => K x7 w) (fun x36 w =>
 gW x32 false (fun K w => binIntW .sub x35 x36 K w) (fun x37 w =>
 gW x32 false (fun K w => maxW (Value.int .i64 0) [x37] K w) (fun x38 w =>
 gW x32 false (fun K w => binIntW .neq x34 x38 K w) (fun x39 w =>
 pickW x32 (Value.bool true) x39 (fun x40 w =>
 condP x40 (fun w => K (Value.bool false) w) (fun w => binIntW .add x7 (Value.int .i64 1) (fun x41 w =>
 J1 x41 w) w) w) w) w) w) w) w) w) w) w) w) w) w) w) w) w) w) w) w) w) w) w) w) w) w) w) w) w) w) w) w) w) w) w) (fun w => binIntW .gtr x4 (Value.int .i64 6) (fun x42 w =>
 gW x42 true (fun K w => K x5 w) (fun x43 w =>
 gW x42 true (fun K w => K x4 w) (fun x44 w =>
 gW x42 true (fun K w => CP Try.prog Fn.levels_Levels_Put [x43, x44, (Value.int .u64 8)] K w) (fun x45 w =>
 gW x42 true (fun K w => binIntW .neq x45 (Value.int .i64 0) K w) (fun x46 w =>
 gW x42 true (fun K w => K x46 w) (fun x47 w =>
 gW x47 false (fun K w => K x5 w) (fun x48 w =>
 gW x47 false (fun K w => CP Try.prog Fn.levels_Levels_Room [x48] K w) (fun x49 w =>
 gW x47 false (fun K w => binIntW .neq x49 (Value.int .i64 0) K w) (fun x50 w =>
 gW x42 true (fun K w => pickW x47 (Value.bool true) x50 K w) (fun x51 w =>
 pickW x42 x51 (Value.bool false) (fun x52 w =>
 condP x52 (fun w => K (Value.bool false) w) (fun w => binIntW .add x4 (Value.int .i64 1) (fun x53 w =>
 CP Try.prog Fn.levels_Levels_Get [x5, x53] (fun x54 w =>
 extractW 0 x54 (fun x55 w =>
 extractW 1 x54 (fun x56 w =>
 notW x56 (fun x57 w =>
 gW x57 true (fun K w => K x55 w) (fun x58 w =>
 gW x57 true (fun K w => binIntW .eql x58 (Value.int .u64 0) K w) (fun x59 w =>
 pickW x57 x59 (Value.bool false) (fun x60 w =>
 gW x60 true (fun K w => K x5 w) (fun x61 w =>
 gW x60 true (fun K w => CP Try.prog Fn.levels_Levels_Cells [x61] K w) (fun x62 w =>
 gW x60 true (fun K w => lenW x62 K w) (fun x63 w =>
 gW x60 true (fun K w => K x4 w) (fun x64 w =>
 gW x60 true (fun K w => binIntW .eql x63 x64 K w) (fun x65 w =>
 pickW x60 x65 (Value.bool false) (fun x66 w =>
 K x66 w) w) w) w) w) w) w) w) w) w) w) w) w) w) w) w) w) w) w) w) w) w) w) w) w) w) w) w) w) w) w) w) w) w) w) w) w) w) w

/-- law9_LevelsPlays -/
def S_law9_LevelsPlays (a0 a1 : Value) (K : KV) : World → Prop := fun w =>
 CP Try.prog Fn.law9_LevelsRuns [] (fun x1 w =>
 notW x1 (fun x2 w =>
 condP x2 (fun w => K (Value.bool false) w) (fun w => CP Try.prog Fn.levels_New [a0] (fun x3 w =>
 CP Try.prog Fn.ref7_NewLevels [a0] (fun x4 w =>
 eqNilW .eql x3 (Value.pointer none) (fun x5 w =>
 condP x5 (fun w => K (Value.bool false) w) (fun w => loopW1 (Value.int .i64 0) (fun J1 x6 w =>
 lenW a1 (fun x7 w =>
 binIntW .lss x6 x7 (fun x8 w =>
 gW x8 true (fun K w => K x6 w) (fun x9 w =>
 gW x8 true (fun K w => binIntW .lss x9 (Value.int .i64 60) K w) (fun x10 w =>
 pickW x8 x10 (Value.bool false) (fun x11 w =>
 condP x11 (fun w => idxW 4 a1 x6 (fun x12 w =>
 loadNW 4 x12 (fun x13 w =>
 CP Try.prog Fn.law9_do [x3, x4, x13, x6] (fun x14 w =>
 notW x14 (fun x15 w =>
 gW x15 false (fun K w => K x3 w) (fun x16 w =>
 gW x15 false (fun K w => K x4 w) (fun x17 w =>
 gW x15 false (fun K w => CP Try.prog Fn.law9_same [x16, x17] K w) (fun x18 w =>
 gW x15 false (fun K w => notW x18 K w) (fun x19 w =>
 pickW x15 (Value.bool true) x19 (fun x20 w =>
 condP x20 (fun w => K (Value.bool false) w) (fun w => binIntW .add x6 (Value.int .i64 1) (fun x21 w =>
 J1 x21 w) w) w) w) w) w) w) w) w) w) w) w) (fun w => K (Value.bool true) w) w) w) w) w) w) w) w) w) w) w) w) w) w) w

/-- law6_MemRuns -/
def S_law6_MemRuns (K : KV) : World → Prop := fun w =>
 buildW [(Value.int .i64 0), (Value.int .i64 0), (Value.int .i64 0), (Value.int .i64 0), (Value.int .u64 0)] [(0, 1, (Value.int .i64 40)), (1, 1, (Value.int .i64 4)), (2, 1, (Value.int .i64 2)), (3, 1, (Value.int .i64 2)), (4, 1, (Value.int .u64 9))] (fun x1 w =>
 CP Try.prog Fn.mem_New [x1] (fun x2 w =>
 eqNilW .eql x2 (Value.pointer none) (fun x3 w =>
 condP x3 (fun w => K (Value.bool false) w) (fun w => buildW [(Value.int .u64 0), (Value.bool false), (Value.int .i64 0)] [(0, 1, (Value.int .u64 3))] (fun x4 w =>
 buildW [(Value.int .i64 0), (Value.int .i64 0), (Value.int .u64 0), (Value.int .u64 0), (Value.int .u64 0), (Value.bool false), (Value.int .i64 0), (Value.int .u64 0), (Value.bool false), (Value.int .i64 0)] [(0, 1, (Value.int .i64 4)), (1, 1, (Value.int .i64 1)), (4, 3, x4)] (fun x5 w =>
 CP Try.prog Fn.mem_Mem_Do [x2, x5] (fun x6 w =>
 newW #[(Value.int .u64 0), (Value.int .u64 0), (Value.bool false), (Value.int .i64 0), (Value.bool false), (Value.int .i64 0)] (fun x7 w =>
 storeW 6 x7 x6 (fun _ w =>
 buildW [(Value.int .i64 0), (Value.int .i64 0), (Value.int .u64 0), (Value.int .u64 0), (Value.int .u64 0), (Value.bool false), (Value.int .i64 0), (Value.int .u64 0), (Value.bool false), (Value.int .i64 0)] [(0, 1, (Value.int .i64 1))] (fun x9 w =>
 CP Try.prog Fn.mem_Mem_Do [x2, x9] (fun x10 w =>
 newW #[(Value.int .u64 0), (Value.int .u64 0), (Value.bool false), (Value.int .i64 0), (Value.bool false), (Value.int .i64 0)] (fun x11 w =>
 storeW 6 x11 x10 (fun _ w =>
 buildW [(Value.int .i64 0), (Value.int .i64 0), (Value.int .u64 0), (Value.int .u64 0), (Value.int .u64 0), (Value.bool false), (Value.int .i64 0), (Value.int .u64 0), (Value.bool false), (Value.int .i64 0)] [(0, 1, (Value.int .i64 2)), (1, 1, (Value.int .i64 7)), (3, 1, (Value.int .u64 5))] (fun x13 w =>
 CP Try.prog Fn.mem_Mem_Do [x2, x13] (fun x14 w =>
 newW #[(Value.int .u64 0), (Value.int .u64 0), (Value.bool false), (Value.int .i64 0), (Value.bool false), (Value.int .i64 0)] (fun x15 w =>
 storeW 6 x15 x14 (fun _ w =>
 buildW [(Value.int .i64 0), (Value.int .i64 0), (Value.int .u64 0), (Value.int .u64 0), (Value.int .u64 0), (Value.bool false), (Value.int .i64 0), (Value.int .u64 0), (Value.bool false), (Value.int .i64 0)] [(0, 1, (Value.int .i64 1)), (1, 1, (Value.int .i64 7))] (fun x17 w =>
 CP Try.prog Fn.mem_Mem_Do [x2, x17] (fun x18 w =>
 newW #[(Value.int .u64 0), (Value.int .u64 0), (Value.bool false), (Value.int .i64 0), (Value.bool false), (Value.int .i64 0)] (fun x19 w =>
 storeW 6 x19 x18 (fun _ w =>
 addW 4 x7 (fun x21 w =>
 load1W x21 (fun x22 w =>
 notW x22 (fun x23 w =>
 gW x23 true (fun K w => addW 5 x7 K w) (fun x24 w =>
 gW x23 true (fun K w => load1W x24 K w) (fun x25 w =>
 gW x23 true (fun K w => binIntW .eql x25 (Value.int .i64 0) K w) (fun x26 w =>
 pickW x23 x26 (Value.bool false) (fun x27 w =>
 gW x27 true (fun K w => addW 5 x11 K w) (fun x28 w =>
 gW x27 true (fun K w => load1W x28 K w) (fun x29 w =>
 gW x27 true (fun K w => binIntW .eql x29 (Value.int .i64 2) K w) (fun x30 w =>
 pickW x27 x30 (Value.bool false) (fun x31 w =>
 gW x31 true (fun K w => addW 5 x15 K w) (fun x32 w =>
 gW x31 true (fun K w => load1W x32 K w) (fun x33 w =>
 gW x31 true (fun K w => binIntW .eql x33 (Value.int .i64 0) K w) (fun x34 w =>
 pickW x31 x34 (Value.bool false) (fun x35 w =>
 gW x35 true (fun K w => addW 0 x19 K w) (fun x36 w =>
 gW x35 true (fun K w => load1W x36 K w) (fun x37 w =>
 gW x35 true (fun K w => binIntW .eql x37 (Value.int .u64 5) K w) (fun x38 w =>
 pickW x35 x38 (Value.bool false) (fun x39 w =>
 gW x39 true (fun K w => K x2 w) (fun x40 w =>
 gW x39 true (fun K w => CP Try.prog Fn.mem_Mem_Count [x40] K w) (fun x41 w =>
 gW x39 true (fun K w => binIntW .eql x41 (Value.int .i64 3) K w) (fun x42 w =>
 pickW x39 x42 (Value.bool false) (fun x43 w =>
 gW x43 true (fun K w => K x2 w) (fun x44 w =>
 gW x43 true (fun K w => CP Try.prog Fn.mem_Mem_Now [x44] K w) (fun x45 w =>
 gW x43 true (fun K w => binIntW .eql x45 (Value.int .u64 9) K w) (fun x46 w =>
 pickW x43 x46 (Value.bool false) (fun x47 w =>
 gW x47 true (fun K w => K x2 w) (fun x48 w =>
 gW x47 true (fun K w => CP Try.prog Fn.mem_Mem_Stripe [x48, (Value.int .i64 7)] K w) (fun x49 w =>
 gW x47 true (fun K w => binIntW .eql x49 (Value.int .i64 3) K w) (fun x50 w =>
 pickW x47 x50 (Value.bool false) (fun x51 w =>
 gW x51 true (fun K w => K x2 w) (fun x52 w =>
 gW x51 true (fun K w => CP Try.prog Fn.mem_Mem_Words [x52] K w) (fun x53 w =>
 gW x51 true (fun K w => lenW x53 K w) (fun x54 w =>
 gW x51 true (fun K w => binIntW .eql x54 (Value.int .i64 40) K w) (fun x55 w =>
 pickW x51 x55 (Value.bool false) (fun x56 w =>
 gW x56 true (fun K w => K x2 w) (fun x57 w =>
 gW x56 true (fun K w => CP Try.prog Fn.mem_Mem_Locks [x57] K w) (fun x58 w =>
 gW x56 true (fun K w => lenW x58 K w) (fun x59 w =>
 gW x56 true (fun K w => binIntW .eql x59 (Value.int .i64 4) K w) (fun x60 w =>
 pickW x56 x60 (Value.bool false) (fun x61 w =>
 gW x61 true (fun K w => K x2 w) (fun x62 w =>
 gW x61 true (fun K w => CP Try.prog Fn.mem_Mem_Slots [x62] K w) (fun x63 w =>
 gW x61 true (fun K w => lenW x63 K w) (fun x64 w =>
 gW x61 true (fun K w => binIntW .eql x64 (Value.int .i64 2) K w) (fun x65 w =>
 pickW x61 x65 (Value.bool false) (fun x66 w =>
 gW x66 true (fun K w => K x2 w) (fun x67 w =>
 gW x66 true (fun K w => CP Try.prog Fn.mem_Mem_Copy [x67] K w) (fun x68 w =>
 gW x66 true (fun K w => eqNilW .neq x68 (Value.pointer none) K w) (fun x69 w =>
 pickW x66 x69 (Value.bool false) (fun x70 w =>
 K x70 w) w) w) w) w) w) w) w) w) w) w) w) w) w) w) w) w) w) w) w) w) w) w) w) w) w) w) w) w) w) w) w) w) w) w) w) w) w) w) w) w) w) w) w) w) w) w) w) w) w) w) w) w) w) w) w) w) w) w) w) w) w) w) w) w) w) w) w) w) w) w) w

/-- law6_MemStripes -/
def S_law6_MemStripes (a0 a1 : Value) (K : KV) : World → Prop := fun w =>
 boxW a0 (fun x1 w =>
 CP Try.prog Fn.law6_MemRuns [] (fun x2 w =>
 notW x2 (fun x3 w =>
 condP x3 (fun w => K (Value.bool false) w) (fun w => loadNW 5 x1 (fun x4 w =>
 CP Try.prog Fn.mem_New [x4] (fun x5 w =>
 drewW (fun w => eqNilW .neq x5 (Value.pointer none) (fun x6 w =>
 gW x6 true (fun K w => K x5 w) (fun x7 w =>
 gW x6 true (fun K w => K a1 w) (fun x8 w =>
 gW x6 true (fun K w => K a1 w) (fun x9 w =>
 gW x6 true (fun K w => addW 1 x1 K w) (fun x10 w =>
 gW x6 true (fun K w => load1W x10 K w) (fun x11 w =>
 gW x6 true (fun K w => addW 2 x1 K w) (fun x12 w =>
 gW x6 true (fun K w => load1W x12 K w) (fun x13 w =>
 gW x6 true (fun K w => CP Try.prog Fn.mem_Mem_Stripe [x7, x8] K w) (fun x14 w =>
 andP (fun w => andP (fun w => gW x6 true (fun K w => load1W x12 K w) (fun v w => eqP v x13 w) w) (fun w => andP (fun w => gW x6 true (fun K w => load1W x10 K w) (fun v w => eqP v x11 w) w) (fun w => trueP w) w) w) (fun w =>
 gW x6 true (fun K w => CP Try.prog Fn.ref1_Of [x9, x11, x13] K w) (fun x15 w =>
 andP (fun w => andP (fun w => trueP w) (fun w => andP (fun w => trueP w) (fun w => trueP w) w) w) (fun w =>
 gW x6 true (fun K w => binIntW .eql x14 x15 K w) (fun x16 w =>
 pickW x6 x16 (Value.bool false) (fun x17 w =>
 K x17 w) w) w) w) w) w) w) w) w) w) w) w) w) w) w) w) w) w) w) w) w) w

/-- law6_MemPlays -/
def S_law6_MemPlays (a0 a1 a2 : Value) (K : KV) : World → Prop := fun w =>
 boxW a0 (fun x1 w =>
 CP Try.prog Fn.law6_MemRuns [] (fun x2 w =>
 notW x2 (fun x3 w =>
 condP x3 (fun w => K (Value.bool false) w) (fun w => drewW (fun w => loadNW 5 x1 (fun x4 w =>
 loadNW 5 x1 (fun x5 w =>
 CP Try.prog Fn.mem_New [x4] (fun x6 w =>
 andP (fun w => andP (fun w => loadNW 5 x1 (fun v w => eqP v x5 w) w) (fun w => andP (fun w => trueP w) (fun w => trueP w) w) w) (fun w =>
 CP Try.prog Fn.ref1_NewMem [x5] (fun x7 w =>
 andP (fun w => andP (fun w => trueP w) (fun w => trueP w) w) (fun w =>
 drewW (fun w => eqNilW .neq x6 (Value.pointer none) (fun x8 w =>
 gW x8 true (fun K w => loadNW 5 x1 K w) (fun x9 w =>
 gW x8 true (fun K w => K x7 w) (fun x10 w =>
 gW x8 true (fun K w => nilW x10 K w) (fun x11 w =>
 gW x8 true (fun K w => addW 0 x11 K w) (fun x12 w =>
 gW x8 true (fun K w => loadNW 5 x12 K w) (fun x13 w =>
 gW x8 true (fun K w => CP Try.prog Fn.mem_Held [x9] K w) (fun x14 w =>
 andP (fun w => andP (fun w => gW x8 true (fun K w => loadNW 5 x12 K w) (fun v w => eqP v x13 w) w) (fun w => andP (fun w => trueP w) (fun w => trueP w) w) w) (fun w =>
 gW x8 true (fun K w => eqAggW [.i .i64, .i .i64, .i .i64, .i .i64, .i .u64] .eql x14 x13 K w) (fun x15 w =>
 pickW x8 x15 (Value.bool false) (fun x16 w =>
 gW x16 true (fun K w => K x6 w) (fun x17 w =>
 gW x16 true (fun K w => K x7 w) (fun x18 w =>
 gW x16 true (fun K w => CP Try.prog Fn.law6_same [x17, x18] K w) (fun x19 w =>
 andP (fun w => andP (fun w => trueP w) (fun w => trueP w) w) (fun w =>
 pickW x16 x19 (Value.bool false) (fun x20 w =>
 gW x20 true (fun K w => K x6 w) (fun x21 w =>
 gW x20 true (fun K w => K x7 w) (fun x22 w =>
 gW x20 true (fun K w => K a1 w) (fun x23 w =>
 gW x20 true (fun K w => K a2 w) (fun x24 w =>
 gW x20 true (fun K w => CP Try.prog Fn.law6_do [x21, x22, x23, x24] K w) (fun x25 w =>
 andP (fun w => trueP w) (fun w =>
 pickW x20 x25 (Value.bool false) (fun x26 w =>
 K x26 w) w) w) w) w) w) w) w) w) w) w) w) w) w) w) w) w) w) w) w) w) w) w) w) w) w) w) w) w) w) w) w) w) w) w

/-- law6_MemApart -/
def S_law6_MemApart (a0 a1 a2 : Value) (K : KV) : World → Prop := fun w =>
 boxW a0 (fun x1 w =>
 boxW a2 (fun x2 w =>
 CP Try.prog Fn.law6_MemRuns [] (fun x3 w =>
 notW x3 (fun x4 w =>
 condP x4 (fun w => K (Value.bool false) w) (fun w => drewW (fun w => loadNW 5 x1 (fun x5 w =>
 loadNW 5 x1 (fun x6 w =>
 CP Try.prog Fn.mem_New [x5] (fun x7 w =>
 andP (fun w => andP (fun w => loadNW 5 x1 (fun v w => eqP v x6 w) w) (fun w => andP (fun w => trueP w) (fun w => trueP w) w) w) (fun w =>
 CP Try.prog Fn.ref1_NewMem [x6] (fun x8 w =>
 andP (fun w => andP (fun w => trueP w) (fun w => trueP w) w) (fun w =>
 eqNilW .eql x7 (Value.pointer none) (fun x9 w =>
 gW x9 false (fun K w => K x7 w) (fun x10 w =>
 gW x9 false (fun K w => K x8 w) (fun x11 w =>
 gW x9 false (fun K w => K a1 w) (fun x12 w =>
 gW x9 false (fun K w => CP Try.prog Fn.law6_do [x10, x11, x12, (Value.bool false)] K w) (fun x13 w =>
 gW x9 false (fun K w => notW x13 K w) (fun x14 w =>
 pickW x9 (Value.bool true) x14 (fun x15 w =>
 condP x15 (fun w => K (Value.bool false) w) (fun w => loadNW 10 x2 (fun x16 w =>
 CP Try.prog Fn.law6_near [x16, x8, (Value.bool false)] (fun x17 w =>
 storeW 10 x2 x17 (fun _ w =>
 CP Try.prog Fn.mem_Mem_Words [x7] (fun x19 w =>
 CP Try.prog Fn.mem_Mem_Locks [x7] (fun x20 w =>
 CP Try.prog Fn.mem_Mem_Now [x7] (fun x21 w =>
 CP Try.prog Fn.mem_Mem_Slots [x7] (fun x22 w =>
 loadNW 10 x2 (fun x23 w =>
 CP Try.prog Fn.mem_Mem_Do [x7, x23] (fun x24 w =>
 newW #[(Value.int .u64 0), (Value.int .u64 0), (Value.bool false), (Value.int .i64 0), (Value.bool false), (Value.int .i64 0)] (fun x25 w =>
 storeW 6 x25 x24 (fun _ w =>
 CP Try.prog Fn.mem_Mem_Words [x7] (fun x27 w =>
 CP Try.prog Fn.mem_Mem_Locks [x7] (fun x28 w =>
 CP Try.prog Fn.mem_Mem_Now [x7] (fun x29 w =>
 CP Try.prog Fn.mem_Mem_Slots [x7] (fun x30 w =>
 lenW x19 (fun x31 w =>
 lenW x27 (fun x32 w =>
 binIntW .neq x31 x32 (fun x33 w =>
 gW x33 false (fun K w => K x20 w) (fun x34 w =>
 gW x33 false (fun K w => lenW x34 K w) (fun x35 w =>
 gW x33 false (fun K w => K x28 w) (fun x36 w =>
 gW x33 false (fun K w => lenW x36 K w) (fun x37 w =>
 gW x33 false (fun K w => binIntW .neq x35 x37 K w) (fun x38 w =>
 pickW x33 (Value.bool true) x38 (fun x39 w =>
 gW x39 false (fun K w => K x22 w) (fun x40 w =>
 gW x39 false (fun K w => lenW x40 K w) (fun x41 w =>
 gW x39 false (fun K w => K x30 w) (fun x42 w =>
 gW x39 false (fun K w => lenW x42 K w) (fun x43 w =>
 gW x39 false (fun K w => binIntW .neq x41 x43 K w) (fun x44 w =>
 pickW x39 (Value.bool true) x44 (fun x45 w =>
 condP x45 (fun w => K (Value.bool false) w) (fun w => loopW1 (Value.int .i64 0) (fun J1 x46 w =>
 lenW x19 (fun x47 w =>
 binIntW .lss x46 x47 (fun x48 w =>
 condP x48 (fun w => drewW (fun w => idxW 1 x19 x46 (fun x49 w =>
 load1W x49 (fun x50 w =>
 idxW 1 x27 x46 (fun x51 w =>
 load1W x51 (fun x52 w =>
 binIntW .neq x50 x52 (fun x53 w =>
 gW x53 true (fun K w => addW 0 x2 K w) (fun x54 w =>
 gW x53 true (fun K w => load1W x54 K w) (fun x55 w =>
 gW x53 true (fun K w => binIntW .neq x55 (Value.int .i64 2) K w) (fun x56 w =>
 gW x53 true (fun K w => K x56 w) (fun x57 w =>
 gW x57 false (fun K w => K x46 w) (fun x58 w =>
 gW x57 false (fun K w => addW 1 x2 K w) (fun x59 w =>
 gW x57 false (fun K w => load1W x59 K w) (fun x60 w =>
 gW x57 false (fun K w => binIntW .neq x58 x60 K w) (fun x61 w =>
 gW x53 true (fun K w => pickW x57 (Value.bool true) x61 K w) (fun x62 w =>
 gW x53 true (fun K w => K x62 w) (fun x63 w =>
 gW x63 false (fun K w => K x27 w) (fun x64 w =>
 gW x63 false (fun K w => K x46 w) (fun x65 w =>
 gW x63 false (fun K w => idxW 1 x64 x65 K w) (fun x66 w =>
 gW x63 false (fun K w => load1W x66 K w) (fun x67 w =>
 gW x63 false (fun K w => addW 3 x2 K w) (fun x68 w =>
 gW x63 false (fun K w => load1W x68 K w) (fun x69 w =>
 gW x63 false (fun K w => binIntW .neq x67 x69 K w) (fun x70 w =>
 gW x53 true (fun K w => pickW x63 (Value.bool true) x70 K w) (fun x71 w =>
 pickW x53 x71 (Value.bool false) (fun x72 w =>
 condP x72 (fun w => K (Value.bool false) w) (fun w => binIntW .add x46 (Value.int .i64 1) (fun x73 w =>
 J1 x73 w) w) w) w) w) w) w) w) w) w) w) w) w) w) w) w) w) w) w) w) w) w) w) w) w) w) w) w) (fun w => loopW1 (Value.int .i64 0) (fun J2 x74 w =>
 lenW x20 (fun x75 w =>
 binIntW .lss x74 x75 (fun x76 w =>
 condP x76 (fun w => drewW (fun w => idxW 3 x20 x74 (fun x77 w =>
 loadNW 3 x77 (fun x78 w =>
 idxW 3 x28 x74 (fun x79 w =>
 loadNW 3 x79 (fun x80 w =>
 eqAggW [.i .u64, .b, .i .i64] .neq x78 x80 (fun x81 w =>
 gW x81 true (fun K w => addW 0 x2 K w) (fun x82 w =>
 gW x81 true (fun K w => load1W x82 K w) (fun x83 w =>
 gW x81 true (fun K w => binIntW .neq x83 (Value.int .i64 5) K w) (fun x84 w =>
 gW x81 true (fun K w => K x84 w) (fun x85 w =>
 gW x85 true (fun K w => addW 0 x2 K w) (fun x86 w =>
 gW x85 true (fun K w => load1W x86 K w) (fun x87 w =>
 gW x85 true (fun K w => binIntW .eql x87 (Value.int .i64 4) K w) (fun x88 w =>
 gW x85 true (fun K w => K x88 w) (fun x89 w =>
 gW x89 true (fun K w => addW 4 x25 K w) (fun x90 w =>
 gW x89 true (fun K w => load1W x90 K w) (fun x91 w =>
 gW x85 true (fun K w => pickW x89 x91 (Value.bool false) K w) (fun x92 w =>
 gW x85 true (fun K w => notW x92 K w) (fun x93 w =>
 gW x81 true (fun K w => pickW x85 x93 (Value.bool false) K w) (fun x94 w =>
 gW x81 true (fun K w => K x94 w) (fun x95 w =>
 gW x95 false (fun K w => K x74 w) (fun x96 w =>
 gW x95 false (fun K w => addW 1 x2 K w) (fun x97 w =>
 gW x95 false (fun K w => load1W x97 K w) (fun x98 w =>
 gW x95 false (fun K w => binIntW .neq x96 x98 K w) (fun x99 w =>
 gW x81 true (fun K w => pickW x95 (Value.bool true) x99 K w) (fun x100 w =>
 gW x81 true (fun K w => K x100 w) (fun x101 w =>
 gW x101 false (fun K w => K x28 w) (fun x102 w =>
 gW x101 false (fun K w => K x74 w) (fun x103 w =>
 gW x101 false (fun K w => idxW 3 x102 x103 K w) (fun x104 w =>
 gW x101 false (fun K w => loadNW 3 x104 K w) (fun x105 w =>
 gW x101 false (fun K w => addW 7 x2 K w) (fun x106 w =>
 gW x101 false (fun K w => loadNW 3 x106 K w) (fun x107 w =>
 gW x101 false (fun K w => eqAggW [.i .u64, .b, .i .i64] .neq x105 x107 K w) (fun x108 w =>
 gW x81 true (fun K w => pickW x101 (Value.bool true) x108 K w) (fun x109 w =>
 pickW x81 x109 (Value.bool false) (fun x110 w =>
 condP x110 (fun w => K (Value.bool false) w) (fun w => binIntW .add x74 (Value.int .i64 1) (fun x111 w =>
 J2 x111 w) w) w) w) w) w) w) w) w) w) w) w) w) w) w) w) w) w) w) w) w) w) w) w) w) w) w) w) w) w) w) w) w) w) w) w) w) w) (fun w => loopW1 (Value.int .i64 0) (fun J3 x112 w =>
 lenW x22 (fun x113 w =>
 binIntW .lss x112 x113 (fun x114 w =>
 condP x114 (fun w => drewW (fun w => idxW 1 x22 x112 (fun x115 w =>
 load1W x115 (fun x116 w =>
 idxW 1 x30 x112 (fun x117 w =>
 load1W x117 (fun x118 w =>
 binIntW .neq x116 x118 (fun x119 w =>
 gW x119 true (fun K w => addW 0 x2 K w) (fun x120 w =>
 gW x119 true (fun K w => load1W x120 K w) (fun x121 w =>
 gW x119 true (fun K w => binIntW .neq x121 (Value.int .i64 9) K w) (fun x122 w =>
 gW x119 true (fun K w => K x122 w) (fun x123 w =>
 gW x123 false (fun K w => K x112 w) (fun x124 w =>
 gW x123 false (fun K w => addW 1 x2 K w) (fun x125 w =>
 gW x123 false (fun K w => load1W x125 K w) (fun x126 w =>
 gW x123 false (fun K w => binIntW .neq x124 x126 K w) (fun x127 w =>
 gW x119 true (fun K w => pickW x123 (Value.bool true) x127 K w) (fun x128 w =>
 gW x119 true (fun K w => K x128 w) (fun x129 w =>
 gW x129 false (fun K w => K x30 w) (fun x130 w =>
 gW x129 false (fun K w => K x112 w) (fun x131 w =>
 gW x129 false (fun K w => idxW 1 x130 x131 K w) (fun x132 w =>
 gW x129 false (fun K w => load1W x132 K w) (fun x133 w =>
 gW x129 false (fun K w => addW 3 x2 K w) (fun x134 w =>
 gW x129 false (fun K w => load1W x134 K w) (fun x135 w =>
 gW x129 false (fun K w => binIntW .neq x133 x135 K w) (fun x136 w =>
 gW x119 true (fun K w => pickW x129 (Value.bool true) x136 K w) (fun x137 w =>
 pickW x119 x137 (Value.bool false) (fun x138 w =>
 condP x138 (fun w => K (Value.bool false) w) (fun w => binIntW .add x112 (Value.int .i64 1) (fun x139 w =>
 J3 x139 w) w) w) w) w) w) w) w) w) w) w) w) w) w) w) w) w) w) w) w) w) w) w) w) w) w) w) w) (fun w => binIntW .eql x21 x29 (fun x140 w =>
 gW x140 false (fun K w => addW 0 x2 K w) (fun x141 w =>
 gW x140 false (fun K w => load1W x141 K w) (fun x142 w =>
 gW x140 false (fun K w => binIntW .eql x142 (Value.int .i64 7) K w) (fun x143 w =>
 gW x140 false (fun K w => K x143 w) (fun x144 w =>
 gW x144 true (fun K w => addW 4 x25 K w) (fun x145 w =>
 gW x144 true (fun K w => load1W x145 K w) (fun x146 w =>
 gW x140 false (fun K w => pickW x144 x146 (Value.bool false) K w) (fun x147 w =>
 gW x140 false (fun K w => K x147 w) (fun x148 w =>
 gW x148 true (fun K w => K x29 w) (fun x149 w =>
 gW x148 true (fun K w => addW 3 x2 K w) (fun x150 w =>
 gW x148 true (fun K w => load1W x150 K w) (fun x151 w =>
 gW x148 true (fun K w => binIntW .eql x149 x151 K w) (fun x152 w =>
 gW x140 false (fun K w => pickW x148 x152 (Value.bool false) K w) (fun x153 w =>
 pickW x140 (Value.bool true) x153 (fun x154 w =>
 K x154 w) w) w) w) w) w) w) w) w) w) w) w) w) w) w) w) w) w) w) w) w) w) w) w) w) w) w) w) w) w) w) w) w) w) w) w) w) w) w) w) w) w) w) w) w) w) w) w) w) w) w) w) w) w) w) w) w) w) w) w) w) w) w) w) w) w) w) w) w) w) w) w) w) w) w) w) w) w) w

/-- law6_MemCopies -/
def S_law6_MemCopies (a0 a1 a2 a3 : Value) (K : KV) : World → Prop := fun w =>
 boxW a0 (fun x1 w =>
 CP Try.prog Fn.law6_MemRuns [] (fun x2 w =>
 notW x2 (fun x3 w =>
 condP x3 (fun w => K (Value.bool false) w) (fun w => drewW (fun w => loadNW 5 x1 (fun x4 w =>
 loadNW 5 x1 (fun x5 w =>
 CP Try.prog Fn.mem_New [x4] (fun x6 w =>
 andP (fun w => andP (fun w => loadNW 5 x1 (fun v w => eqP v x5 w) w) (fun w => andP (fun w => trueP w) (fun w => trueP w) w) w) (fun w =>
 CP Try.prog Fn.ref1_NewMem [x5] (fun x7 w =>
 andP (fun w => andP (fun w => trueP w) (fun w => trueP w) w) (fun w =>
 eqNilW .eql x6 (Value.pointer none) (fun x8 w =>
 gW x8 false (fun K w => K x6 w) (fun x9 w =>
 gW x8 false (fun K w => K x7 w) (fun x10 w =>
 gW x8 false (fun K w => K a1 w) (fun x11 w =>
 gW x8 false (fun K w => CP Try.prog Fn.law6_do [x9, x10, x11, (Value.bool false)] K w) (fun x12 w =>
 gW x8 false (fun K w => notW x12 K w) (fun x13 w =>
 pickW x8 (Value.bool true) x13 (fun x14 w =>
 condP x14 (fun w => K (Value.bool false) w) (fun w => CP Try.prog Fn.mem_Mem_Copy [x6] (fun x15 w =>
 CP Try.prog Fn.ref1_Mem_Copy [x7] (fun x16 w =>
 eqNilW .neq x15 (Value.pointer none) (fun x17 w =>
 gW x17 true (fun K w => K x15 w) (fun x18 w =>
 gW x17 true (fun K w => K x16 w) (fun x19 w =>
 gW x17 true (fun K w => K a2 w) (fun x20 w =>
 gW x17 true (fun K w => CP Try.prog Fn.law6_do [x18, x19, x20, (Value.bool false)] K w) (fun x21 w =>
 pickW x17 x21 (Value.bool false) (fun x22 w =>
 gW x22 true (fun K w => K x6 w) (fun x23 w =>
 gW x22 true (fun K w => K x7 w) (fun x24 w =>
 gW x22 true (fun K w => K a3 w) (fun x25 w =>
 gW x22 true (fun K w => CP Try.prog Fn.law6_do [x23, x24, x25, (Value.bool false)] K w) (fun x26 w =>
 pickW x22 x26 (Value.bool false) (fun x27 w =>
 gW x27 true (fun K w => K x15 w) (fun x28 w =>
 gW x27 true (fun K w => K x16 w) (fun x29 w =>
 gW x27 true (fun K w => CP Try.prog Fn.law6_same [x28, x29] K w) (fun x30 w =>
 pickW x27 x30 (Value.bool false) (fun x31 w =>
 K x31 w) w) w) w) w) w) w) w) w) w) w) w) w) w) w) w) w) w) w) w) w) w) w) w) w) w) w) w) w) w) w) w) w) w) w) w) w

/-- levels_New -/
def S_levels_New (a0 : Value) (K : KV) : World → Prop := fun w =>
 minW a0 [(Value.int .i64 96)] (fun x1 w =>
 maxW (Value.int .i64 0) [x1] (fun x2 w =>
 CP Try.prog Fn.levels_fresh [] (fun x3 w =>
 buildSliceW [(Value.pointer none)] 1 [(0, 1, x3)] (fun x4 w =>
 buildW [(Value.int .i64 0), (Value.slice none 0 0)] [(0, 1, x2), (1, 1, x4)] (fun x5 w =>
 boxW x5 (fun x6 w =>
 K x6 w) w) w) w) w) w) w

/-- levels_Levels_Put -/
def S_levels_Levels_Put (a0 a1 a2 : Value) (K : KV) : World → Prop := fun w =>
 binIntW .lss a1 (Value.int .i64 1) (fun x1 w =>
 gW x1 false (fun K w => K a1 w) (fun x2 w =>
 gW x1 false (fun K w => binIntW .geq x2 (Value.int .i64 256) K w) (fun x3 w =>
 pickW x1 (Value.bool true) x3 (fun x4 w =>
 condP x4 (fun w => K (Value.int .i64 2) w) (fun w => CP Try.prog Fn.levels_Levels_in [a0] (fun x5 w =>
 nilW x5 (fun x6 w =>
 addW 0 x6 (fun x7 w =>
 load1W x7 (fun x8 w =>
 CP Try.prog Fn.writes_Writes_Get [x8, a1] (fun x9 w =>
 extractW 0 x9 (fun x10 w =>
 extractW 1 x9 (fun x11 w =>
 notW x11 (fun x12 w =>
 gW x12 true (fun K w => K a0 w) (fun x13 w =>
 gW x12 true (fun K w => CP Try.prog Fn.levels_Levels_Room [x13] K w) (fun x14 w =>
 gW x12 true (fun K w => binIntW .eql x14 (Value.int .i64 0) K w) (fun x15 w =>
 pickW x12 x15 (Value.bool false) (fun x16 w =>
 condP x16 (fun w => K (Value.int .i64 5) w) (fun w => CP Try.prog Fn.writes_Writes_Put [x8, a1, a2] (fun x17 w =>
 K x17 w) w) w) w) w) w) w) w) w) w) w) w) w) w) w) w) w) w) w) w

/-- levels_Levels_Open -/
def S_levels_Levels_Open (a0 : Value) (K : KV) : World → Prop := fun w =>
 nilW a0 (fun x1 w =>
 addW 1 x1 (fun x2 w =>
 load1W x2 (fun x3 w =>
 lenW x3 (fun x4 w =>
 binIntW .geq x4 (Value.int .i64 6) (fun x5 w =>
 condP x5 (fun w => K (Value.int .i64 9) w) (fun w => drewW (fun w => nilW a0 (fun x6 w =>
 addW 1 x6 (fun x7 w =>
 load1W x7 (fun x8 w =>
 CP Try.prog Fn.levels_fresh [] (fun x9 w =>
 andP (fun w => andP (fun w => load1W x7 (fun v w => eqP v x8 w) w) (fun w => trueP w) w) (fun w =>
 buildSliceW [(Value.pointer none)] 1 [(0, 1, x9)] (fun x10 w =>
 andP (fun w => andP (fun w => load1W x7 (fun v w => eqP v x8 w) w) (fun w => trueP w) w) (fun w =>
 appendW 1 8 x8 x10 (fun x11 w =>
 andP (fun w => andP (fun w => trueP w) (fun w => trueP w) w) (fun w =>
 nilW a0 (fun x12 w =>
 addW 1 x12 (fun x13 w =>
 storeW 1 x13 x11 (fun _ w =>
 andP (fun w => trueP w) (fun w =>
 K (Value.int .i64 0) w) w) w) w) w) w) w) w) w) w) w) w) w) w) w) w) w) w) w) w) w

/-- levels_Levels_Get -/
def S_levels_Levels_Get (a0 a1 : Value) (K : KV) : World → Prop := fun w =>
 boxW a1 (fun x1 w =>
 newW #[(Value.int .u64 0)] (fun x2 w =>
 newW #[(Value.bool false)] (fun x3 w =>
 nilW a0 (fun x4 w =>
 addW 1 x4 (fun x5 w =>
 load1W x5 (fun x6 w =>
 CP Try.prog Fn.slices_Backward_levels_level_levels_level [x6] (fun x7 w =>
 backW Fn.slices_Backward_levels_level_levels_level_1 x7 (fun J R x8 x9 w =>
 drewW (fun w => nilW x9 (fun x10 w =>
 addW 0 x10 (fun x11 w =>
 load1W x11 (fun x12 w =>
 load1W x1 (fun x13 w =>
 CP Try.prog Fn.writes_Writes_Get [x12, x13] (fun x14 w =>
 andP (fun w => andP (fun w => trueP w) (fun w => andP (fun w => trueP w) (fun w => trueP w) w) w) (fun w =>
 extractW 0 x14 (fun x15 w =>
 extractW 1 x14 (fun x16 w =>
 condP x16 (fun w => storeW 1 x2 x15 (fun _ w =>
 storeW 1 x3 (Value.bool true) (fun _ w =>
 R w) w) w) (fun w => J w) w) w) w) w) w) w) w) w) w) w) (fun K w =>
 storeW 1 x2 (Value.int .u64 0) (fun _ w =>
 storeW 1 x3 (Value.bool false) (fun _ w =>
 load1W x2 (fun x21 w =>
 load1W x3 (fun x22 w =>
 K (Value.tuple #[x21, x22]) w) w) w) w) w) (fun K w =>
 load1W x2 (fun x23 w =>
 load1W x3 (fun x24 w =>
 K (Value.tuple #[x23, x24]) w) w) w) K w) w) w) w) w) w) w) w

/-- levels_Levels_Drop -/
def S_levels_Levels_Drop (a0 : Value) (K : KV) : World → Prop := fun w =>
 nilW a0 (fun x1 w =>
 addW 1 x1 (fun x2 w =>
 load1W x2 (fun x3 w =>
 lenW x3 (fun x4 w =>
 binIntW .eql x4 (Value.int .i64 1) (fun x5 w =>
 condP x5 (fun w => K (Value.int .i64 10) w) (fun w => drewW (fun w => nilW a0 (fun x6 w =>
 addW 1 x6 (fun x7 w =>
 load1W x7 (fun x8 w =>
 nilW a0 (fun x9 w =>
 addW 1 x9 (fun x10 w =>
 load1W x10 (fun x11 w =>
 lenW x11 (fun x12 w =>
 binIntW .sub x12 (Value.int .i64 1) (fun x13 w =>
 sliceW 1 x8 none (some x13) (fun x14 w =>
 nilW a0 (fun x15 w =>
 addW 1 x15 (fun x16 w =>
 storeW 1 x16 x14 (fun _ w =>
 andP (fun w => andP (fun w => trueP w) (fun w => andP (fun w => trueP w) (fun w => trueP w) w) w) (fun w =>
 K (Value.int .i64 0) w) w) w) w) w) w) w) w) w) w) w) w) w) w) w) w) w) w) w) w) w

/-- levels_Levels_Free -/
def S_levels_Levels_Free (a0 a1 : Value) (K : KV) : World → Prop := fun w =>
 CP Try.prog Fn.levels_Levels_in [a0] (fun x1 w =>
 nilW x1 (fun x2 w =>
 addW 1 x2 (fun x3 w =>
 load1W x3 (fun x4 w =>
 buildSliceW [(Value.int .i64 0)] 1 [(0, 1, a1)] (fun x5 w =>
 appendW 1 8 x4 x5 (fun x6 w =>
 nilW x1 (fun x7 w =>
 addW 1 x7 (fun x8 w =>
 storeW 1 x8 x6 (fun _ w =>
 K (Value.tuple #[]) w) w) w) w) w) w) w) w) w) w

/-- levels_Levels_Keep -/
def S_levels_Levels_Keep (a0 : Value) (K : KV) : World → Prop := fun w =>
 CP Try.prog Fn.levels_Levels_in [a0] (fun x1 w =>
 CP Try.prog Fn.levels_Levels_Drop [a0] (fun x2 w =>
 binIntW .neq x2 (Value.int .i64 0) (fun x3 w =>
 condP x3 (fun w => K x2 w) (fun w => CP Try.prog Fn.levels_Levels_in [a0] (fun x4 w =>
 drewW (fun w => nilW x4 (fun x5 w =>
 addW 1 x5 (fun x6 w =>
 load1W x6 (fun x7 w =>
 nilW x1 (fun x8 w =>
 addW 1 x8 (fun x9 w =>
 load1W x9 (fun x10 w =>
 appendW 1 8 x7 x10 (fun x11 w =>
 andP (fun w => andP (fun w => trueP w) (fun w => andP (fun w => trueP w) (fun w => trueP w) w) w) (fun w =>
 nilW x4 (fun x12 w =>
 addW 1 x12 (fun x13 w =>
 storeW 1 x13 x11 (fun _ w =>
 andP (fun w => trueP w) (fun w =>
 drewW (fun w => nilW x4 (fun x15 w =>
 addW 0 x15 (fun x16 w =>
 load1W x16 (fun x17 w =>
 nilW x1 (fun x18 w =>
 addW 0 x18 (fun x19 w =>
 load1W x19 (fun x20 w =>
 CP Try.prog Fn.writes_Writes_All [x20] (fun x21 w =>
 andP (fun w => andP (fun w => trueP w) (fun w => andP (fun w => load1W x16 (fun v w => eqP v x17 w) w) (fun w => trueP w) w) w) (fun w =>
 CP Try.prog Fn.writes_Writes_Take [x17, x21] (fun x22 w =>
 andP (fun w => andP (fun w => trueP w) (fun w => trueP w) w) (fun w =>
 K x22 w) w) w) w) w) w) w) w) w) w) w) w) w) w) w) w) w) w) w) w) w) w) w) w) w) w) w) w) w) w

/-- levels_Levels_Cells -/
def S_levels_Levels_Cells (a0 : Value) (K : KV) : World → Prop := fun w =>
 newW #[(Value.slice none 0 0)] (fun x1 w =>
 nilW a0 (fun x2 w =>
 addW 1 x2 (fun x3 w =>
 load1W x3 (fun x4 w =>
 CP Try.prog Fn.slices_Backward_levels_level_levels_level [x4] (fun x5 w =>
 backW Fn.slices_Backward_levels_level_levels_level_1 x5 (fun J R x6 x7 w =>
 CP Try.prog Fn.writes_New [(Value.int .i64 96)] (fun x8 w =>
 nilW x7 (fun x9 w =>
 addW 0 x9 (fun x10 w =>
 load1W x10 (fun x11 w =>
 CP Try.prog Fn.writes_Writes_All [x11] (fun x12 w =>
 CP Try.prog Fn.writes_Writes_Take [x8, x12] (fun x13 w =>
 load1W x1 (fun x14 w =>
 CP Try.prog Fn.writes_Writes_Take [x8, x14] (fun x15 w =>
 CP Try.prog Fn.writes_Writes_All [x8] (fun x16 w =>
 storeW 1 x1 x16 (fun _ w =>
 J w) w) w) w) w) w) w) w) w) w) w) (fun K w =>
 load1W x1 (fun x18 w =>
 K x18 w) w) (fun K w =>
 K (Value.slice none 0 0) w) K w) w) w) w) w) w

/-- levels_Levels_Frees -/
def S_levels_Levels_Frees (a0 : Value) (K : KV) : World → Prop := fun w =>
 nilW a0 (fun x1 w =>
 addW 1 x1 (fun x2 w =>
 load1W x2 (fun x3 w =>
 lenW x3 (fun x4 w =>
 loopW2 (Value.slice none 0 0) (Value.int .i64 0) (fun J1 x5 x6 w =>
 binIntW .lss x6 x4 (fun x7 w =>
 condP x7 (fun w => idxW 1 x3 x6 (fun x8 w =>
 load1W x8 (fun x9 w =>
 nilW x9 (fun x10 w =>
 addW 1 x10 (fun x11 w =>
 load1W x11 (fun x12 w =>
 appendW 1 8 x5 x12 (fun x13 w =>
 binIntW .add x6 (Value.int .i64 1) (fun x14 w =>
 J1 x13 x14 w) w) w) w) w) w) w) w) (fun w => K x5 w) w) w) w) w) w) w) w

/-- levels_Levels_Depth -/
def S_levels_Levels_Depth (a0 : Value) (K : KV) : World → Prop := fun w =>
 nilW a0 (fun x1 w =>
 addW 1 x1 (fun x2 w =>
 load1W x2 (fun x3 w =>
 lenW x3 (fun x4 w =>
 K x4 w) w) w) w) w

/-- levels_Levels_Room -/
def S_levels_Levels_Room (a0 : Value) (K : KV) : World → Prop := fun w =>
 nilW a0 (fun x1 w =>
 addW 0 x1 (fun x2 w =>
 load1W x2 (fun x3 w =>
 nilW a0 (fun x4 w =>
 addW 1 x4 (fun x5 w =>
 load1W x5 (fun x6 w =>
 lenW x6 (fun x7 w =>
 loopW2 x3 (Value.int .i64 0) (fun J1 x8 x9 w =>
 binIntW .lss x9 x7 (fun x10 w =>
 condP x10 (fun w => idxW 1 x6 x9 (fun x11 w =>
 load1W x11 (fun x12 w =>
 nilW x12 (fun x13 w =>
 addW 0 x13 (fun x14 w =>
 load1W x14 (fun x15 w =>
 CP Try.prog Fn.writes_Writes_Len [x15] (fun x16 w =>
 binIntW .sub x8 x16 (fun x17 w =>
 binIntW .add x9 (Value.int .i64 1) (fun x18 w =>
 J1 x17 x18 w) w) w) w) w) w) w) w) w) (fun w => K x8 w) w) w) w) w) w) w) w) w) w) w

/-- law9_flat -/
def S_law9_flat (a0 a1 : Value) (K : KV) : World → Prop := fun w =>
 loopW1 (Value.int .i64 0) (fun J1 x1 w =>
 lenW a1 (fun x2 w =>
 binIntW .lss x1 x2 (fun x3 w =>
 gW x3 true (fun K w => K x1 w) (fun x4 w =>
 gW x3 true (fun K w => binIntW .lss x4 (Value.int .i64 12) K w) (fun x5 w =>
 pickW x3 x5 (Value.bool false) (fun x6 w =>
 condP x6 (fun w => idxW 4 a1 x1 (fun x7 w =>
 addW 0 x7 (fun x8 w =>
 load1W x8 (fun x9 w =>
 binIntW .and x9 (Value.int .i64 3) (fun x10 w =>
 binIntW .eql x10 (Value.int .i64 3) (fun x11 w =>
 joinW0 (fun  w =>
 binIntW .add x1 (Value.int .i64 1) (fun x12 w =>
 J1 x12 w) w) (fun j1 w =>
 condP x11 (fun w => idxW 4 a1 x1 (fun x13 w =>
 addW 1 x13 (fun x14 w =>
 load1W x14 (fun x15 w =>
 CP Try.prog Fn.levels_Levels_Free [a0, x15] (fun x16 w =>
 j1  w) w) w) w) w) (fun w => drewW (fun w => idxW 4 a1 x1 (fun x17 w =>
 addW 1 x17 (fun x18 w =>
 load1W x18 (fun x19 w =>
 idxW 4 a1 x1 (fun x20 w =>
 addW 2 x20 (fun x21 w =>
 load1W x21 (fun x22 w =>
 CP Try.prog Fn.book_Within [x19, (Value.int .i64 1), (Value.int .i64 20)] (fun x23 w =>
 andP (fun w => andP (fun w => load1W x21 (fun v w => eqP v x22 w) w) (fun w => andP (fun w => trueP w) (fun w => trueP w) w) w) (fun w =>
 CP Try.prog Fn.levels_Levels_Put [a0, x23, x22] (fun x24 w =>
 andP (fun w => andP (fun w => trueP w) (fun w => trueP w) w) (fun w =>
 binIntW .neq x24 (Value.int .i64 0) (fun x25 w =>
 condP x25 (fun w => K (Value.bool false) w) (fun w => j1  w) w) w) w) w) w) w) w) w) w) w) w) w) w) w) w) w) w) w) w) w) (fun w => K (Value.bool true) w) w) w) w) w) w) w) w

/-- book_Same_api_Cell -/
def S_book_Same_api_Cell (a0 a1 : Value) (K : KV) : World → Prop := fun w =>
 lenW a0 (fun x1 w =>
 lenW a1 (fun x2 w =>
 binIntW .neq x1 x2 (fun x3 w =>
 condP x3 (fun w => K (Value.bool false) w) (fun w => loopW1 (Value.int .i64 0) (fun J1 x4 w =>
 lenW a0 (fun x5 w =>
 binIntW .lss x4 x5 (fun x6 w =>
 condP x6 (fun w => drewW (fun w => idxW 2 a0 x4 (fun x7 w =>
 loadNW 2 x7 (fun x8 w =>
 idxW 2 a1 x4 (fun x9 w =>
 loadNW 2 x9 (fun x10 w =>
 eqAggW [.i .i64, .i .u64] .neq x8 x10 (fun x11 w =>
 condP x11 (fun w => K (Value.bool false) w) (fun w => binIntW .add x4 (Value.int .i64 1) (fun x12 w =>
 J1 x12 w) w) w) w) w) w) w) w) w) (fun w => K (Value.bool true) w) w) w) w) w) w) w) w) w

/-- book_Same_int -/
def S_book_Same_int (a0 a1 : Value) (K : KV) : World → Prop := fun w =>
 lenW a0 (fun x1 w =>
 lenW a1 (fun x2 w =>
 binIntW .neq x1 x2 (fun x3 w =>
 condP x3 (fun w => K (Value.bool false) w) (fun w => loopW1 (Value.int .i64 0) (fun J1 x4 w =>
 lenW a0 (fun x5 w =>
 binIntW .lss x4 x5 (fun x6 w =>
 condP x6 (fun w => drewW (fun w => idxW 1 a0 x4 (fun x7 w =>
 load1W x7 (fun x8 w =>
 idxW 1 a1 x4 (fun x9 w =>
 load1W x9 (fun x10 w =>
 binIntW .neq x8 x10 (fun x11 w =>
 condP x11 (fun w => K (Value.bool false) w) (fun w => binIntW .add x4 (Value.int .i64 1) (fun x12 w =>
 J1 x12 w) w) w) w) w) w) w) w) w) (fun w => K (Value.bool true) w) w) w) w) w) w) w) w) w

/-- ref7_NewLevels -/
def S_ref7_NewLevels (a0 : Value) (K : KV) : World → Prop := fun w =>
 drewW (fun w => andP (fun w => CP Try.prog Fn.ref1_Held [a0, (Value.int .i64 0), (Value.int .i64 96)] (fun x1 w =>
 andP (fun w => trueP w) (fun w =>
 makeSliceW 48 [(Value.slice none 0 0), (Value.slice none 0 0)] (Value.int .i64 1) (Value.int .i64 1) (fun x2 w =>
 andP (fun w => trueP w) (fun w =>
 buildW [(Value.int .i64 0), (Value.slice none 0 0)] [(0, 1, x1), (1, 1, x2)] (fun x3 w =>
 boxW x3 (fun x4 w =>
 andP (fun w => trueP w) (fun w =>
 K x4 w) w) w) w) w) w) w) w) (fun w => makeSliceW 48 [(Value.slice none 0 0), (Value.slice none 0 0)] (Value.int .i64 1) (Value.int .i64 1) (fun x5 w =>
 andP (fun w => trueP w) (fun w =>
 CP Try.prog Fn.ref1_Held [a0, (Value.int .i64 0), (Value.int .i64 96)] (fun x6 w =>
 andP (fun w => trueP w) (fun w =>
 buildW [(Value.int .i64 0), (Value.slice none 0 0)] [(0, 1, x6), (1, 1, x5)] (fun x7 w =>
 boxW x7 (fun x8 w =>
 andP (fun w => trueP w) (fun w =>
 K x8 w) w) w) w) w) w) w) w) w) w

/-- law9_do -/
def S_law9_do (a0 a1 a2 a3 : Value) (K : KV) : World → Prop := fun w =>
 boxW a2 (fun x1 w =>
 addW 0 x1 (fun x2 w =>
 load1W x2 (fun x3 w =>
 CP Try.prog Fn.book_Within [x3, (Value.int .i64 0), (Value.int .i64 9)] (fun x4 w =>
 binIntW .eql x4 (Value.int .i64 0) (fun x5 w =>
 condP x5 (fun w => CP Try.prog Fn.levels_Levels_Open [a0] (fun x6 w =>
 CP Try.prog Fn.ref7_Levels_Open [a1] (fun x7 w =>
 binIntW .eql x6 x7 (fun x8 w =>
 K x8 w) w) w) w) (fun w => binIntW .eql x4 (Value.int .i64 1) (fun x9 w =>
 condP x9 (fun w => CP Try.prog Fn.levels_Levels_Keep [a0] (fun x10 w =>
 CP Try.prog Fn.ref7_Levels_Keep [a1] (fun x11 w =>
 binIntW .eql x10 x11 (fun x12 w =>
 K x12 w) w) w) w) (fun w => binIntW .eql x4 (Value.int .i64 2) (fun x13 w =>
 condP x13 (fun w => CP Try.prog Fn.levels_Levels_Drop [a0] (fun x14 w =>
 CP Try.prog Fn.ref7_Levels_Drop [a1] (fun x15 w =>
 binIntW .eql x14 x15 (fun x16 w =>
 K x16 w) w) w) w) (fun w => binIntW .eql x4 (Value.int .i64 3) (fun x17 w =>
 condP x17 (fun w => addW 1 x1 (fun x18 w =>
 load1W x18 (fun x19 w =>
 CP Try.prog Fn.levels_Levels_Free [a0, x19] (fun x20 w =>
 addW 1 x1 (fun x21 w =>
 load1W x21 (fun x22 w =>
 CP Try.prog Fn.ref7_Levels_Free [a1, x22] (fun x23 w =>
 K (Value.bool true) w) w) w) w) w) w) w) (fun w => binIntW .eql x4 (Value.int .i64 4) (fun x24 w =>
 condP x24 (fun w => loopW2 (Value.slice none 0 0) (Value.int .i64 0) (fun J1 x25 x26 w =>
 addW 3 x1 (fun x27 w =>
 load1W x27 (fun x28 w =>
 lenW x28 (fun x29 w =>
 binIntW .lss x26 x29 (fun x30 w =>
 gW x30 true (fun K w => K x26 w) (fun x31 w =>
 gW x30 true (fun K w => binIntW .lss x31 (Value.int .i64 6) K w) (fun x32 w =>
 pickW x30 x32 (Value.bool false) (fun x33 w =>
 condP x33 (fun w => drewW (fun w => addW 3 x1 (fun x34 w =>
 load1W x34 (fun x35 w =>
 idxW 2 x35 x26 (fun x36 w =>
 addW 0 x36 (fun x37 w =>
 load1W x37 (fun x38 w =>
 binIntW .add a3 x26 (fun x39 w =>
 addW 3 x1 (fun x40 w =>
 load1W x40 (fun x41 w =>
 idxW 2 x41 x26 (fun x42 w =>
 addW 1 x42 (fun x43 w =>
 load1W x43 (fun x44 w =>
 CP Try.prog Fn.law9_place [x38, x39] (fun x45 w =>
 andP (fun w => andP (fun w => load1W x43 (fun v w => eqP v x44 w) w) (fun w => andP (fun w => load1W x40 (fun v w => eqP v x41 w) w) (fun w => andP (fun w => trueP w) (fun w => andP (fun w => trueP w) (fun w => trueP w) w) w) w) w) (fun w =>
 buildW [(Value.int .i64 0), (Value.int .u64 0)] [(0, 1, x45), (1, 1, x44)] (fun x46 w =>
 buildSliceW [(Value.int .i64 0), (Value.int .u64 0)] 1 [(0, 2, x46)] (fun x47 w =>
 andP (fun w => andP (fun w => trueP w) (fun w => andP (fun w => trueP w) (fun w => trueP w) w) w) (fun w =>
 appendW 2 16 x25 x47 (fun x48 w =>
 andP (fun w => trueP w) (fun w =>
 binIntW .add x26 (Value.int .i64 1) (fun x49 w =>
 J1 x48 x49 w) w) w) w) w) w) w) w) w) w) w) w) w) w) w) w) w) w) w) w) w) (fun w => CP Try.prog Fn.levels_Levels_Take [a0, x25] (fun x50 w =>
 CP Try.prog Fn.ref7_Levels_Take [a1, x25] (fun x51 w =>
 binIntW .eql x50 x51 (fun x52 w =>
 K x52 w) w) w) w) w) w) w) w) w) w) w) w) w) (fun w => addW 1 x1 (fun x53 w =>
 load1W x53 (fun x54 w =>
 CP Try.prog Fn.law9_place [x54, a3] (fun x55 w =>
 drewW (fun w => addW 2 x1 (fun x56 w =>
 load1W x56 (fun x57 w =>
 addW 2 x1 (fun x58 w =>
 load1W x58 (fun x59 w =>
 CP Try.prog Fn.levels_Levels_Put [a0, x55, x57] (fun x60 w =>
 andP (fun w => andP (fun w => load1W x58 (fun v w => eqP v x59 w) w) (fun w => andP (fun w => trueP w) (fun w => trueP w) w) w) (fun w =>
 CP Try.prog Fn.ref7_Levels_Put [a1, x55, x59] (fun x61 w =>
 andP (fun w => andP (fun w => trueP w) (fun w => trueP w) w) (fun w =>
 binIntW .eql x60 x61 (fun x62 w =>
 K x62 w) w) w) w) w) w) w) w) w) w) w) w) w) w) w) w) w) w) w) w) w) w) w) w) w) w) w) w

/-- law9_same -/
def S_law9_same (a0 a1 : Value) (K : KV) : World → Prop := fun w =>
 CP Try.prog Fn.ref7_Levels_Whole [a1] (fun x1 w =>
 newW #[(Value.slice none 0 0), (Value.slice none 0 0)] (fun x2 w =>
 storeW 2 x2 x1 (fun _ w =>
 loopW1 (Value.int .i64 0) (fun J1 x4 w =>
 binIntW .leq x4 (Value.int .i64 21) (fun x5 w =>
 condP x5 (fun w => CP Try.prog Fn.levels_Levels_Get [a0, x4] (fun x6 w =>
 extractW 0 x6 (fun x7 w =>
 extractW 1 x6 (fun x8 w =>
 CP Try.prog Fn.ref7_Levels_Get [a1, x4] (fun x9 w =>
 extractW 0 x9 (fun x10 w =>
 extractW 1 x9 (fun x11 w =>
 binIntW .neq x7 x10 (fun x12 w =>
 gW x12 false (fun K w => K x8 w) (fun x13 w =>
 gW x12 false (fun K w => K x11 w) (fun x14 w =>
 gW x12 false (fun K w => binBoolW .neq x13 x14 K w) (fun x15 w =>
 pickW x12 (Value.bool true) x15 (fun x16 w =>
 condP x16 (fun w => K (Value.bool false) w) (fun w => binIntW .add x4 (Value.int .i64 1) (fun x17 w =>
 J1 x17 w) w) w) w) w) w) w) w) w) w) w) w) w) w) (fun w => drewW (fun w => addW 0 x2 (fun x18 w =>
 load1W x18 (fun x19 w =>
 CP Try.prog Fn.levels_Levels_Cells [a0] (fun x20 w =>
 andP (fun w => andP (fun w => load1W x18 (fun v w => eqP v x19 w) w) (fun w => trueP w) w) (fun w =>
 CP Try.prog Fn.book_Same_api_Cell [x20, x19] (fun x21 w =>
 andP (fun w => andP (fun w => trueP w) (fun w => trueP w) w) (fun w =>
 gW x21 true (fun K w => K a0 w) (fun x22 w =>
 gW x21 true (fun K w => addW 1 x2 K w) (fun x23 w =>
 gW x21 true (fun K w => load1W x23 K w) (fun x24 w =>
 gW x21 true (fun K w => CP Try.prog Fn.levels_Levels_Frees [x22] K w) (fun x25 w =>
 andP (fun w => andP (fun w => gW x21 true (fun K w => load1W x23 K w) (fun v w => eqP v x24 w) w) (fun w => trueP w) w) (fun w =>
 gW x21 true (fun K w => CP Try.prog Fn.book_Same_int [x25, x24] K w) (fun x26 w =>
 andP (fun w => andP (fun w => trueP w) (fun w => trueP w) w) (fun w =>
 pickW x21 x26 (Value.bool false) (fun x27 w =>
 gW x27 true (fun K w => K a0 w) (fun x28 w =>
 gW x27 true (fun K w => K a1 w) (fun x29 w =>
 gW x27 true (fun K w => nilW x29 K w) (fun x30 w =>
 gW x27 true (fun K w => addW 1 x30 K w) (fun x31 w =>
 gW x27 true (fun K w => load1W x31 K w) (fun x32 w =>
 gW x27 true (fun K w => lenW x32 K w) (fun x33 w =>
 gW x27 true (fun K w => CP Try.prog Fn.levels_Levels_Depth [x28] K w) (fun x34 w =>
 andP (fun w => andP (fun w => gW x27 true (fun K w => load1W x31 K w) (fun v w => eqP v x32 w) w) (fun w => trueP w) w) (fun w =>
 gW x27 true (fun K w => binIntW .eql x34 x33 K w) (fun x35 w =>
 pickW x27 x35 (Value.bool false) (fun x36 w =>
 gW x36 true (fun K w => K a0 w) (fun x37 w =>
 gW x36 true (fun K w => K a1 w) (fun x38 w =>
 gW x36 true (fun K w => CP Try.prog Fn.levels_Levels_Room [x37] K w) (fun x39 w =>
 andP (fun w => andP (fun w => trueP w) (fun w => trueP w) w) (fun w =>
 gW x36 true (fun K w => CP Try.prog Fn.ref7_Levels_Room [x38] K w) (fun x40 w =>
 andP (fun w => trueP w) (fun w =>
 gW x36 true (fun K w => binIntW .eql x39 x40 K w) (fun x41 w =>
 pickW x36 x41 (Value.bool false) (fun x42 w =>
 K x42 w) w) w) w) w) w) w) w) w) w) w) w) w) w) w) w) w) w) w) w) w) w) w) w) w) w) w) w) w) w) w) w) w) w) w) w) w) w) w) w

/-- mem_New -/
def S_mem_New (a0 : Value) (K : KV) : World → Prop := fun w =>
 boxW a0 (fun x1 w =>
 loadNW 5 x1 (fun x2 w =>
 CP Try.prog Fn.mem_Held [x2] (fun x3 w =>
 storeW 5 x1 x3 (fun _ w =>
 drewW (fun w => loadNW 5 x1 (fun x5 w =>
 addW 0 x1 (fun x6 w =>
 load1W x6 (fun x7 w =>
 addW 1 x1 (fun x8 w =>
 load1W x8 (fun x9 w =>
 addW 2 x1 (fun x10 w =>
 load1W x10 (fun x11 w =>
 addW 4 x1 (fun x12 w =>
 load1W x12 (fun x13 w =>
 addW 3 x1 (fun x14 w =>
 load1W x14 (fun x15 w =>
 CP Try.prog Fn.heap_New [x7] (fun x16 w =>
 andP (fun w => andP (fun w => load1W x14 (fun v w => eqP v x15 w) w) (fun w => andP (fun w => load1W x12 (fun v w => eqP v x13 w) w) (fun w => andP (fun w => load1W x10 (fun v w => eqP v x11 w) w) (fun w => andP (fun w => load1W x8 (fun v w => eqP v x9 w) w) (fun w => andP (fun w => trueP w) (fun w => andP (fun w => loadNW 5 x1 (fun v w => eqP v x5 w) w) (fun w => trueP w) w) w) w) w) w) w) (fun w =>
 CP Try.prog Fn.stripe_New [x9, x11] (fun x17 w =>
 andP (fun w => andP (fun w => load1W x14 (fun v w => eqP v x15 w) w) (fun w => andP (fun w => load1W x12 (fun v w => eqP v x13 w) w) (fun w => andP (fun w => trueP w) (fun w => andP (fun w => trueP w) (fun w => andP (fun w => loadNW 5 x1 (fun v w => eqP v x5 w) w) (fun w => trueP w) w) w) w) w) w) (fun w =>
 CP Try.prog Fn.clock_New [x13] (fun x18 w =>
 andP (fun w => andP (fun w => load1W x14 (fun v w => eqP v x15 w) w) (fun w => andP (fun w => trueP w) (fun w => andP (fun w => loadNW 5 x1 (fun v w => eqP v x5 w) w) (fun w => trueP w) w) w) w) (fun w =>
 CP Try.prog Fn.epoch_New [x15] (fun x19 w =>
 andP (fun w => andP (fun w => trueP w) (fun w => andP (fun w => loadNW 5 x1 (fun v w => eqP v x5 w) w) (fun w => trueP w) w) w) (fun w =>
 buildW [(Value.int .i64 0), (Value.int .i64 0), (Value.int .i64 0), (Value.int .i64 0), (Value.int .u64 0), (Value.pointer none), (Value.pointer none), (Value.pointer none), (Value.pointer none), (Value.int .i64 0)] [(0, 5, x5), (5, 1, x16), (6, 1, x17), (7, 1, x18), (8, 1, x19)] (fun x20 w =>
 boxW x20 (fun x21 w =>
 andP (fun w => andP (fun w => trueP w) (fun w => trueP w) w) (fun w =>
 K x21 w) w) w) w) w) w) w) w) w) w) w) w) w) w) w) w) w) w) w) w) w) w) w) w) w) w) w) w

/-- mem_Mem_Do -/
def S_mem_Mem_Do (a0 a1 : Value) (K : KV) : World → Prop := fun w =>
 boxW a1 (fun x1 w =>
 newW #[(Value.int .u64 0), (Value.int .u64 0), (Value.bool false), (Value.int .i64 0), (Value.bool false), (Value.int .i64 0)] (fun x2 w =>
 loadNW 10 x1 (fun x3 w =>
 CP Try.prog Fn.mem_Mem_do [a0, x3] (fun x4 w =>
 newW #[(Value.int .u64 0), (Value.int .u64 0), (Value.bool false), (Value.int .i64 0), (Value.bool false), (Value.int .i64 0)] (fun x5 w =>
 storeW 6 x5 x4 (fun _ w =>
 addW 5 x5 (fun x7 w =>
 load1W x7 (fun x8 w =>
 binIntW .eql x8 (Value.int .i64 0) (fun x9 w =>
 joinW0 (fun  w =>
 loadNW 6 x5 (fun x10 w =>
 storeW 6 x2 x10 (fun _ w =>
 loadNW 6 x2 (fun x12 w =>
 K x12 w) w) w) w) (fun j1 w =>
 condP x9 (fun w => nilW a0 (fun x13 w =>
 addW 9 x13 (fun x14 w =>
 load1W x14 (fun x15 w =>
 binIntW .add x15 (Value.int .i64 1) (fun x16 w =>
 nilW a0 (fun x17 w =>
 addW 9 x17 (fun x18 w =>
 storeW 1 x18 x16 (fun _ w =>
 j1  w) w) w) w) w) w) w) w) (fun w => j1  w) w) w) w) w) w) w) w) w) w) w) w

/-- mem_Mem_Count -/
def S_mem_Mem_Count (a0 : Value) (K : KV) : World → Prop := fun w =>
 nilW a0 (fun x1 w =>
 addW 9 x1 (fun x2 w =>
 load1W x2 (fun x3 w =>
 K x3 w) w) w) w

/-- mem_Mem_Now -/
def S_mem_Mem_Now (a0 : Value) (K : KV) : World → Prop := fun w =>
 nilW a0 (fun x1 w =>
 addW 7 x1 (fun x2 w =>
 load1W x2 (fun x3 w =>
 CP Try.prog Fn.clock_Clock_Load [x3] (fun x4 w =>
 K x4 w) w) w) w) w

/-- mem_Mem_Stripe -/
def S_mem_Mem_Stripe (a0 a1 : Value) (K : KV) : World → Prop := fun w =>
 nilW a0 (fun x1 w =>
 addW 6 x1 (fun x2 w =>
 load1W x2 (fun x3 w =>
 CP Try.prog Fn.stripe_Table_Of [x3, a1] (fun x4 w =>
 K x4 w) w) w) w) w

/-- mem_Mem_Words -/
def S_mem_Mem_Words (a0 : Value) (K : KV) : World → Prop := fun w =>
 nilW a0 (fun x1 w =>
 addW 5 x1 (fun x2 w =>
 load1W x2 (fun x3 w =>
 CP Try.prog Fn.heap_Heap_All [x3] (fun x4 w =>
 K x4 w) w) w) w) w

/-- mem_Mem_Locks -/
def S_mem_Mem_Locks (a0 : Value) (K : KV) : World → Prop := fun w =>
 nilW a0 (fun x1 w =>
 addW 6 x1 (fun x2 w =>
 load1W x2 (fun x3 w =>
 CP Try.prog Fn.stripe_Table_All [x3] (fun x4 w =>
 K x4 w) w) w) w) w

/-- mem_Mem_Slots -/
def S_mem_Mem_Slots (a0 : Value) (K : KV) : World → Prop := fun w =>
 nilW a0 (fun x1 w =>
 addW 8 x1 (fun x2 w =>
 load1W x2 (fun x3 w =>
 CP Try.prog Fn.epoch_Slots_All [x3] (fun x4 w =>
 K x4 w) w) w) w) w

/-- mem_Mem_Copy -/
def S_mem_Mem_Copy (a0 : Value) (K : KV) : World → Prop := fun w =>
 nilW a0 (fun x1 w =>
 loadNW 10 x1 (fun x2 w =>
 newW #[(Value.int .i64 0), (Value.int .i64 0), (Value.int .i64 0), (Value.int .i64 0), (Value.int .u64 0), (Value.pointer none), (Value.pointer none), (Value.pointer none), (Value.pointer none), (Value.int .i64 0)] (fun x3 w =>
 storeW 10 x3 x2 (fun _ w =>
 drewW (fun w => nilW a0 (fun x5 w =>
 addW 5 x5 (fun x6 w =>
 load1W x6 (fun x7 w =>
 nilW a0 (fun x8 w =>
 addW 6 x8 (fun x9 w =>
 load1W x9 (fun x10 w =>
 nilW a0 (fun x11 w =>
 addW 7 x11 (fun x12 w =>
 load1W x12 (fun x13 w =>
 nilW a0 (fun x14 w =>
 addW 8 x14 (fun x15 w =>
 load1W x15 (fun x16 w =>
 CP Try.prog Fn.heap_Heap_Copy [x7] (fun x17 w =>
 andP (fun w => andP (fun w => load1W x15 (fun v w => eqP v x16 w) w) (fun w => andP (fun w => load1W x12 (fun v w => eqP v x13 w) w) (fun w => andP (fun w => load1W x9 (fun v w => eqP v x10 w) w) (fun w => andP (fun w => trueP w) (fun w => trueP w) w) w) w) w) (fun w =>
 CP Try.prog Fn.stripe_Table_Copy [x10] (fun x18 w =>
 andP (fun w => andP (fun w => load1W x15 (fun v w => eqP v x16 w) w) (fun w => andP (fun w => load1W x12 (fun v w => eqP v x13 w) w) (fun w => andP (fun w => trueP w) (fun w => trueP w) w) w) w) (fun w =>
 CP Try.prog Fn.clock_Clock_Copy [x13] (fun x19 w =>
 andP (fun w => andP (fun w => load1W x15 (fun v w => eqP v x16 w) w) (fun w => andP (fun w => trueP w) (fun w => trueP w) w) w) (fun w =>
 CP Try.prog Fn.epoch_Slots_Copy [x16] (fun x20 w =>
 andP (fun w => andP (fun w => trueP w) (fun w => trueP w) w) (fun w =>
 addW 5 x3 (fun x21 w =>
 storeW 1 x21 x17 (fun _ w =>
 andP (fun w => trueP w) (fun w =>
 addW 6 x3 (fun x23 w =>
 storeW 1 x23 x18 (fun _ w =>
 andP (fun w => trueP w) (fun w =>
 addW 7 x3 (fun x25 w =>
 storeW 1 x25 x19 (fun _ w =>
 andP (fun w => trueP w) (fun w =>
 addW 8 x3 (fun x27 w =>
 storeW 1 x27 x20 (fun _ w =>
 andP (fun w => trueP w) (fun w =>
 K x3 w) w) w) w) w) w) w) w) w) w) w) w) w) w) w) w) w) w) w) w) w) w) w) w) w) w) w) w) w) w) w) w) w) w) w) w) w) w

/-- ref1_Of -/
def S_ref1_Of (a0 a1 a2 : Value) (K : KV) : World → Prop := fun w =>
 binIntW .lss a0 (Value.int .i64 0) (fun x1 w =>
 condP x1 (fun w => K (Value.int .i64 (-1)) w) (fun w => drewW (fun w => CP Try.prog Fn.ref1_Held [a2, (Value.int .i64 1), (Value.int .i64 16)] (fun x2 w =>
 andP (fun w => trueP w) (fun w =>
 binIntW .quo a0 x2 (fun x3 w =>
 CP Try.prog Fn.ref1_Held [a1, (Value.int .i64 1), (Value.int .i64 16)] (fun x4 w =>
 andP (fun w => trueP w) (fun w =>
 binIntW .rem x3 x4 (fun x5 w =>
 K x5 w) w) w) w) w) w) w) w) w) w

/-- ref1_NewMem -/
def S_ref1_NewMem (a0 : Value) (K : KV) : World → Prop := fun w =>
 boxW a0 (fun x1 w =>
 loadNW 5 x1 (fun x2 w =>
 CP Try.prog Fn.ref1_Shape [x2] (fun x3 w =>
 newW #[(Value.int .i64 0), (Value.int .i64 0), (Value.int .i64 0), (Value.int .i64 0), (Value.int .u64 0)] (fun x4 w =>
 storeW 5 x4 x3 (fun _ w =>
 drewW (fun w => loadNW 5 x4 (fun x6 w =>
 addW 0 x4 (fun x7 w =>
 load1W x7 (fun x8 w =>
 addW 1 x4 (fun x9 w =>
 load1W x9 (fun x10 w =>
 addW 4 x4 (fun x11 w =>
 load1W x11 (fun x12 w =>
 addW 3 x4 (fun x13 w =>
 load1W x13 (fun x14 w =>
 andP (fun w => makeSliceW 8 [(Value.int .u64 0)] x8 x8 (fun x15 w =>
 andP (fun w => andP (fun w => load1W x13 (fun v w => eqP v x14 w) w) (fun w => andP (fun w => load1W x11 (fun v w => eqP v x12 w) w) (fun w => andP (fun w => load1W x9 (fun v w => eqP v x10 w) w) (fun w => andP (fun w => trueP w) (fun w => andP (fun w => loadNW 5 x4 (fun v w => eqP v x6 w) w) (fun w => trueP w) w) w) w) w) w) (fun w =>
 andP (fun w => makeSliceW 24 [(Value.int .u64 0), (Value.bool false), (Value.int .i64 0)] x10 x10 (fun x16 w =>
 andP (fun w => andP (fun w => load1W x13 (fun v w => eqP v x14 w) w) (fun w => andP (fun w => load1W x11 (fun v w => eqP v x12 w) w) (fun w => andP (fun w => trueP w) (fun w => andP (fun w => loadNW 5 x4 (fun v w => eqP v x6 w) w) (fun w => trueP w) w) w) w) w) (fun w =>
 makeSliceW 8 [(Value.int .u64 0)] x14 x14 (fun x17 w =>
 andP (fun w => andP (fun w => trueP w) (fun w => andP (fun w => load1W x11 (fun v w => eqP v x12 w) w) (fun w => andP (fun w => loadNW 5 x4 (fun v w => eqP v x6 w) w) (fun w => trueP w) w) w) w) (fun w =>
 buildW [(Value.int .i64 0), (Value.int .i64 0), (Value.int .i64 0), (Value.int .i64 0), (Value.int .u64 0), (Value.slice none 0 0), (Value.slice none 0 0), (Value.int .u64 0), (Value.slice none 0 0), (Value.int .i64 0)] [(0, 5, x6), (5, 1, x15), (6, 1, x16), (7, 1, x12), (8, 1, x17)] (fun x18 w =>
 boxW x18 (fun x19 w =>
 andP (fun w => andP (fun w => trueP w) (fun w => andP (fun w => trueP w) (fun w => trueP w) w) w) (fun w =>
 K x19 w) w) w) w) w) w) w) w) (fun w => makeSliceW 8 [(Value.int .u64 0)] x14 x14 (fun x20 w =>
 andP (fun w => andP (fun w => trueP w) (fun w => andP (fun w => load1W x11 (fun v w => eqP v x12 w) w) (fun w => andP (fun w => load1W x9 (fun v w => eqP v x10 w) w) (fun w => andP (fun w => loadNW 5 x4 (fun v w => eqP v x6 w) w) (fun w => trueP w) w) w) w) w) (fun w =>
 makeSliceW 24 [(Value.int .u64 0), (Value.bool false), (Value.int .i64 0)] x10 x10 (fun x21 w =>
 andP (fun w => andP (fun w => load1W x11 (fun v w => eqP v x12 w) w) (fun w => andP (fun w => trueP w) (fun w => andP (fun w => loadNW 5 x4 (fun v w => eqP v x6 w) w) (fun w => trueP w) w) w) w) (fun w =>
 buildW [(Value.int .i64 0), (Value.int .i64 0), (Value.int .i64 0), (Value.int .i64 0), (Value.int .u64 0), (Value.slice none 0 0), (Value.slice none 0 0), (Value.int .u64 0), (Value.slice none 0 0), (Value.int .i64 0)] [(0, 5, x6), (5, 1, x15), (6, 1, x21), (7, 1, x12), (8, 1, x20)] (fun x22 w =>
 boxW x22 (fun x23 w =>
 andP (fun w => andP (fun w => trueP w) (fun w => andP (fun w => trueP w) (fun w => trueP w) w) w) (fun w =>
 K x23 w) w) w) w) w) w) w) w) w) w) w) (fun w => andP (fun w => makeSliceW 24 [(Value.int .u64 0), (Value.bool false), (Value.int .i64 0)] x10 x10 (fun x24 w =>
 andP (fun w => andP (fun w => load1W x13 (fun v w => eqP v x14 w) w) (fun w => andP (fun w => load1W x11 (fun v w => eqP v x12 w) w) (fun w => andP (fun w => trueP w) (fun w => andP (fun w => load1W x7 (fun v w => eqP v x8 w) w) (fun w => andP (fun w => loadNW 5 x4 (fun v w => eqP v x6 w) w) (fun w => trueP w) w) w) w) w) w) (fun w =>
 andP (fun w => makeSliceW 8 [(Value.int .u64 0)] x8 x8 (fun x25 w =>
 andP (fun w => andP (fun w => load1W x13 (fun v w => eqP v x14 w) w) (fun w => andP (fun w => load1W x11 (fun v w => eqP v x12 w) w) (fun w => andP (fun w => trueP w) (fun w => andP (fun w => loadNW 5 x4 (fun v w => eqP v x6 w) w) (fun w => trueP w) w) w) w) w) (fun w =>
 makeSliceW 8 [(Value.int .u64 0)] x14 x14 (fun x26 w =>
 andP (fun w => andP (fun w => trueP w) (fun w => andP (fun w => load1W x11 (fun v w => eqP v x12 w) w) (fun w => andP (fun w => loadNW 5 x4 (fun v w => eqP v x6 w) w) (fun w => trueP w) w) w) w) (fun w =>
 buildW [(Value.int .i64 0), (Value.int .i64 0), (Value.int .i64 0), (Value.int .i64 0), (Value.int .u64 0), (Value.slice none 0 0), (Value.slice none 0 0), (Value.int .u64 0), (Value.slice none 0 0), (Value.int .i64 0)] [(0, 5, x6), (5, 1, x25), (6, 1, x24), (7, 1, x12), (8, 1, x26)] (fun x27 w =>
 boxW x27 (fun x28 w =>
 andP (fun w => andP (fun w => trueP w) (fun w => andP (fun w => trueP w) (fun w => trueP w) w) w) (fun w =>
 K x28 w) w) w) w) w) w) w) w) (fun w => makeSliceW 8 [(Value.int .u64 0)] x14 x14 (fun x29 w =>
 andP (fun w => andP (fun w => trueP w) (fun w => andP (fun w => load1W x11 (fun v w => eqP v x12 w) w) (fun w => andP (fun w => load1W x7 (fun v w => eqP v x8 w) w) (fun w => andP (fun w => loadNW 5 x4 (fun v w => eqP v x6 w) w) (fun w => trueP w) w) w) w) w) (fun w =>
 makeSliceW 8 [(Value.int .u64 0)] x8 x8 (fun x30 w =>
 andP (fun w => andP (fun w => load1W x11 (fun v w => eqP v x12 w) w) (fun w => andP (fun w => trueP w) (fun w => andP (fun w => loadNW 5 x4 (fun v w => eqP v x6 w) w) (fun w => trueP w) w) w) w) (fun w =>
 buildW [(Value.int .i64 0), (Value.int .i64 0), (Value.int .i64 0), (Value.int .i64 0), (Value.int .u64 0), (Value.slice none 0 0), (Value.slice none 0 0), (Value.int .u64 0), (Value.slice none 0 0), (Value.int .i64 0)] [(0, 5, x6), (5, 1, x30), (6, 1, x24), (7, 1, x12), (8, 1, x29)] (fun x31 w =>
 boxW x31 (fun x32 w =>
 andP (fun w => andP (fun w => trueP w) (fun w => andP (fun w => trueP w) (fun w => trueP w) w) w) (fun w =>
 K x32 w) w) w) w) w) w) w) w) w) w) w) (fun w => makeSliceW 8 [(Value.int .u64 0)] x14 x14 (fun x33 w =>
 andP (fun w => andP (fun w => trueP w) (fun w => andP (fun w => load1W x11 (fun v w => eqP v x12 w) w) (fun w => andP (fun w => load1W x9 (fun v w => eqP v x10 w) w) (fun w => andP (fun w => load1W x7 (fun v w => eqP v x8 w) w) (fun w => andP (fun w => loadNW 5 x4 (fun v w => eqP v x6 w) w) (fun w => trueP w) w) w) w) w) w) (fun w =>
 andP (fun w => makeSliceW 8 [(Value.int .u64 0)] x8 x8 (fun x34 w =>
 andP (fun w => andP (fun w => load1W x11 (fun v w => eqP v x12 w) w) (fun w => andP (fun w => load1W x9 (fun v w => eqP v x10 w) w) (fun w => andP (fun w => trueP w) (fun w => andP (fun w => loadNW 5 x4 (fun v w => eqP v x6 w) w) (fun w => trueP w) w) w) w) w) (fun w =>
 makeSliceW 24 [(Value.int .u64 0), (Value.bool false), (Value.int .i64 0)] x10 x10 (fun x35 w =>
 andP (fun w => andP (fun w => load1W x11 (fun v w => eqP v x12 w) w) (fun w => andP (fun w => trueP w) (fun w => andP (fun w => loadNW 5 x4 (fun v w => eqP v x6 w) w) (fun w => trueP w) w) w) w) (fun w =>
 buildW [(Value.int .i64 0), (Value.int .i64 0), (Value.int .i64 0), (Value.int .i64 0), (Value.int .u64 0), (Value.slice none 0 0), (Value.slice none 0 0), (Value.int .u64 0), (Value.slice none 0 0), (Value.int .i64 0)] [(0, 5, x6), (5, 1, x34), (6, 1, x35), (7, 1, x12), (8, 1, x33)] (fun x36 w =>
 boxW x36 (fun x37 w =>
 andP (fun w => andP (fun w => trueP w) (fun w => andP (fun w => trueP w) (fun w => trueP w) w) w) (fun w =>
 K x37 w) w) w) w) w) w) w) w) (fun w => makeSliceW 24 [(Value.int .u64 0), (Value.bool false), (Value.int .i64 0)] x10 x10 (fun x38 w =>
 andP (fun w => andP (fun w => load1W x11 (fun v w => eqP v x12 w) w) (fun w => andP (fun w => trueP w) (fun w => andP (fun w => load1W x7 (fun v w => eqP v x8 w) w) (fun w => andP (fun w => loadNW 5 x4 (fun v w => eqP v x6 w) w) (fun w => trueP w) w) w) w) w) (fun w =>
 makeSliceW 8 [(Value.int .u64 0)] x8 x8 (fun x39 w =>
 andP (fun w => andP (fun w => load1W x11 (fun v w => eqP v x12 w) w) (fun w => andP (fun w => trueP w) (fun w => andP (fun w => loadNW 5 x4 (fun v w => eqP v x6 w) w) (fun w => trueP w) w) w) w) (fun w =>
 buildW [(Value.int .i64 0), (Value.int .i64 0), (Value.int .i64 0), (Value.int .i64 0), (Value.int .u64 0), (Value.slice none 0 0), (Value.slice none 0 0), (Value.int .u64 0), (Value.slice none 0 0), (Value.int .i64 0)] [(0, 5, x6), (5, 1, x39), (6, 1, x38), (7, 1, x12), (8, 1, x33)] (fun x40 w =>
 boxW x40 (fun x41 w =>
 andP (fun w => andP (fun w => trueP w) (fun w => andP (fun w => trueP w) (fun w => trueP w) w) w) (fun w =>
 K x41 w) w) w) w) w) w) w) w) w) w) w) w) w) w) w) w) w) w) w) w) w) w) w) w) w) w) w) w

/-- mem_Held -/
def S_mem_Held (a0 : Value) (K : KV) : World → Prop := fun w =>
 boxW a0 (fun x1 w =>
 newW #[(Value.int .i64 0), (Value.int .i64 0), (Value.int .i64 0), (Value.int .i64 0), (Value.int .u64 0)] (fun x2 w =>
 addW 0 x1 (fun x3 w =>
 load1W x3 (fun x4 w =>
 minW x4 [(Value.int .i64 256)] (fun x5 w =>
 maxW (Value.int .i64 32) [x5] (fun x6 w =>
 addW 1 x1 (fun x7 w =>
 load1W x7 (fun x8 w =>
 minW x8 [(Value.int .i64 16)] (fun x9 w =>
 maxW (Value.int .i64 1) [x9] (fun x10 w =>
 addW 2 x1 (fun x11 w =>
 load1W x11 (fun x12 w =>
 minW x12 [(Value.int .i64 16)] (fun x13 w =>
 maxW (Value.int .i64 1) [x13] (fun x14 w =>
 addW 3 x1 (fun x15 w =>
 load1W x15 (fun x16 w =>
 minW x16 [(Value.int .i64 4)] (fun x17 w =>
 maxW (Value.int .i64 1) [x17] (fun x18 w =>
 addW 4 x1 (fun x19 w =>
 load1W x19 (fun x20 w =>
 minW x20 [(Value.int .u64 4611686018427387903)] (fun x21 w =>
 buildW [(Value.int .i64 0), (Value.int .i64 0), (Value.int .i64 0), (Value.int .i64 0), (Value.int .u64 0)] [(0, 1, x6), (1, 1, x10), (2, 1, x14), (3, 1, x18), (4, 1, x21)] (fun x22 w =>
 storeW 5 x2 x22 (fun _ w =>
 loadNW 5 x2 (fun x24 w =>
 K x24 w) w) w) w) w) w) w) w) w) w) w) w) w) w) w) w) w) w) w) w) w) w) w) w) w

/-- law6_same -/
def S_law6_same (a0 a1 : Value) (K : KV) : World → Prop := fun w =>
 drewW (fun w => nilW a1 (fun x1 w =>
 addW 5 x1 (fun x2 w =>
 load1W x2 (fun x3 w =>
 CP Try.prog Fn.mem_Mem_Words [a0] (fun x4 w =>
 andP (fun w => andP (fun w => load1W x2 (fun v w => eqP v x3 w) w) (fun w => trueP w) w) (fun w =>
 CP Try.prog Fn.book_Same_uint64 [x4, x3] (fun x5 w =>
 andP (fun w => andP (fun w => trueP w) (fun w => trueP w) w) (fun w =>
 gW x5 true (fun K w => K a0 w) (fun x6 w =>
 gW x5 true (fun K w => K a1 w) (fun x7 w =>
 gW x5 true (fun K w => nilW x7 K w) (fun x8 w =>
 gW x5 true (fun K w => addW 6 x8 K w) (fun x9 w =>
 gW x5 true (fun K w => load1W x9 K w) (fun x10 w =>
 gW x5 true (fun K w => CP Try.prog Fn.mem_Mem_Locks [x6] K w) (fun x11 w =>
 andP (fun w => andP (fun w => gW x5 true (fun K w => load1W x9 K w) (fun v w => eqP v x10 w) w) (fun w => trueP w) w) (fun w =>
 gW x5 true (fun K w => CP Try.prog Fn.book_Same_api_Lock [x11, x10] K w) (fun x12 w =>
 andP (fun w => andP (fun w => trueP w) (fun w => trueP w) w) (fun w =>
 pickW x5 x12 (Value.bool false) (fun x13 w =>
 gW x13 true (fun K w => K a0 w) (fun x14 w =>
 gW x13 true (fun K w => K a1 w) (fun x15 w =>
 gW x13 true (fun K w => nilW x15 K w) (fun x16 w =>
 gW x13 true (fun K w => addW 7 x16 K w) (fun x17 w =>
 gW x13 true (fun K w => load1W x17 K w) (fun x18 w =>
 gW x13 true (fun K w => CP Try.prog Fn.mem_Mem_Now [x14] K w) (fun x19 w =>
 andP (fun w => andP (fun w => gW x13 true (fun K w => load1W x17 K w) (fun v w => eqP v x18 w) w) (fun w => trueP w) w) (fun w =>
 gW x13 true (fun K w => binIntW .eql x19 x18 K w) (fun x20 w =>
 pickW x13 x20 (Value.bool false) (fun x21 w =>
 gW x21 true (fun K w => K a0 w) (fun x22 w =>
 gW x21 true (fun K w => K a1 w) (fun x23 w =>
 gW x21 true (fun K w => nilW x23 K w) (fun x24 w =>
 gW x21 true (fun K w => addW 8 x24 K w) (fun x25 w =>
 gW x21 true (fun K w => load1W x25 K w) (fun x26 w =>
 gW x21 true (fun K w => CP Try.prog Fn.mem_Mem_Slots [x22] K w) (fun x27 w =>
 andP (fun w => andP (fun w => gW x21 true (fun K w => load1W x25 K w) (fun v w => eqP v x26 w) w) (fun w => andP (fun w => trueP w) (fun w => trueP w) w) w) (fun w =>
 gW x21 true (fun K w => CP Try.prog Fn.book_Same_uint64 [x27, x26] K w) (fun x28 w =>
 andP (fun w => andP (fun w => trueP w) (fun w => trueP w) w) (fun w =>
 pickW x21 x28 (Value.bool false) (fun x29 w =>
 gW x29 true (fun K w => K a0 w) (fun x30 w =>
 gW x29 true (fun K w => K a1 w) (fun x31 w =>
 gW x29 true (fun K w => nilW x31 K w) (fun x32 w =>
 gW x29 true (fun K w => addW 9 x32 K w) (fun x33 w =>
 gW x29 true (fun K w => load1W x33 K w) (fun x34 w =>
 gW x29 true (fun K w => CP Try.prog Fn.mem_Mem_Count [x30] K w) (fun x35 w =>
 andP (fun w => andP (fun w => gW x29 true (fun K w => load1W x33 K w) (fun v w => eqP v x34 w) w) (fun w => trueP w) w) (fun w =>
 gW x29 true (fun K w => binIntW .eql x35 x34 K w) (fun x36 w =>
 pickW x29 x36 (Value.bool false) (fun x37 w =>
 gW x37 true (fun K w => K a0 w) (fun x38 w =>
 gW x37 true (fun K w => K a1 w) (fun x39 w =>
 gW x37 true (fun K w => nilW x39 K w) (fun x40 w =>
 gW x37 true (fun K w => addW 0 x40 K w) (fun x41 w =>
 gW x37 true (fun K w => loadNW 5 x41 K w) (fun x42 w =>
 gW x37 true (fun K w => CP Try.prog Fn.mem_Mem_Shape [x38] K w) (fun x43 w =>
 andP (fun w => andP (fun w => gW x37 true (fun K w => loadNW 5 x41 K w) (fun v w => eqP v x42 w) w) (fun w => andP (fun w => trueP w) (fun w => trueP w) w) w) (fun w =>
 gW x37 true (fun K w => eqAggW [.i .i64, .i .i64, .i .i64, .i .i64, .i .u64] .eql x43 x42 K w) (fun x44 w =>
 pickW x37 x44 (Value.bool false) (fun x45 w =>
 K x45 w) w) w) w) w) w) w) w) w) w) w) w) w) w) w) w) w) w) w) w) w) w) w) w) w) w) w) w) w) w) w) w) w) w) w) w) w) w) w) w) w) w) w) w) w) w) w) w) w) w) w) w) w) w) w) w

/-- law6_do -/
def S_law6_do (a0 a1 a2 a3 : Value) (K : KV) : World → Prop := fun w =>
 loopW1 (Value.int .i64 0) (fun J1 x1 w =>
 lenW a2 (fun x2 w =>
 binIntW .lss x1 x2 (fun x3 w =>
 gW x3 true (fun K w => K x1 w) (fun x4 w =>
 gW x3 true (fun K w => binIntW .lss x4 (Value.int .i64 60) K w) (fun x5 w =>
 pickW x3 x5 (Value.bool false) (fun x6 w =>
 condP x6 (fun w => idxW 10 a2 x1 (fun x7 w =>
 loadNW 10 x7 (fun x8 w =>
 gW a3 true (fun K w => K x1 w) (fun x9 w =>
 gW a3 true (fun K w => binIntW .rem x9 (Value.int .i64 3) K w) (fun x10 w =>
 gW a3 true (fun K w => binIntW .eql x10 (Value.int .i64 0) K w) (fun x11 w =>
 pickW a3 x11 (Value.bool false) (fun x12 w =>
 CP Try.prog Fn.law6_near [x8, a1, x12] (fun x13 w =>
 newW #[(Value.int .i64 0), (Value.int .i64 0), (Value.int .u64 0), (Value.int .u64 0), (Value.int .u64 0), (Value.bool false), (Value.int .i64 0), (Value.int .u64 0), (Value.bool false), (Value.int .i64 0)] (fun x14 w =>
 storeW 10 x14 x13 (fun _ w =>
 drewW (fun w => loadNW 10 x14 (fun x16 w =>
 loadNW 10 x14 (fun x17 w =>
 CP Try.prog Fn.mem_Mem_Do [a0, x16] (fun x18 w =>
 andP (fun w => andP (fun w => loadNW 10 x14 (fun v w => eqP v x17 w) w) (fun w => andP (fun w => trueP w) (fun w => trueP w) w) w) (fun w =>
 CP Try.prog Fn.ref1_Mem_Do [a1, x17] (fun x19 w =>
 andP (fun w => andP (fun w => trueP w) (fun w => trueP w) w) (fun w =>
 eqAggW [.i .u64, .i .u64, .b, .i .i64, .b, .i .i64] .neq x18 x19 (fun x20 w =>
 condP x20 (fun w => K (Value.bool false) w) (fun w => binIntW .add x1 (Value.int .i64 1) (fun x21 w =>
 J1 x21 w) w) w) w) w) w) w) w) w) w) w) w) w) w) w) w) w) w) w) w) (fun w => CP Try.prog Fn.law6_same [a0, a1] (fun x22 w =>
 K x22 w) w) w) w) w) w) w) w) w

/-- law6_near -/
def S_law6_near (a0 a1 a2 : Value) (K : KV) : World → Prop := fun w =>
 boxW a0 (fun x1 w =>
 newW #[(Value.int .i64 0), (Value.int .i64 0), (Value.int .u64 0), (Value.int .u64 0), (Value.int .u64 0), (Value.bool false), (Value.int .i64 0), (Value.int .u64 0), (Value.bool false), (Value.int .i64 0)] (fun x2 w =>
 condP a2 (fun w => loadNW 10 x1 (fun x3 w =>
 storeW 10 x2 x3 (fun _ w =>
 loadNW 10 x2 (fun x5 w =>
 K x5 w) w) w) w) (fun w => addW 0 x1 (fun x6 w =>
 load1W x6 (fun x7 w =>
 CP Try.prog Fn.book_Within [x7, (Value.int .i64 1), (Value.int .i64 9)] (fun x8 w =>
 addW 0 x1 (fun x9 w =>
 storeW 1 x9 x8 (fun _ w =>
 addW 0 x1 (fun x11 w =>
 load1W x11 (fun x12 w =>
 binIntW .eql x12 (Value.int .i64 1) (fun x13 w =>
 joinW1 (fun x14 w =>
 joinW0 (fun  w =>
 loadNW 10 x1 (fun x15 w =>
 storeW 10 x2 x15 (fun _ w =>
 loadNW 10 x2 (fun x17 w =>
 K x17 w) w) w) w) (fun j2 w =>
 condP x14 (fun w => drewW (fun w => addW 1 x1 (fun x18 w =>
 load1W x18 (fun x19 w =>
 nilW a1 (fun x20 w =>
 addW 5 x20 (fun x21 w =>
 load1W x21 (fun x22 w =>
 lenW x22 (fun x23 w =>
 CP Try.prog Fn.book_Within [x19, (Value.int .i64 0), x23] (fun x24 w =>
 andP (fun w => andP (fun w => trueP w) (fun w => andP (fun w => trueP w) (fun w => trueP w) w) w) (fun w =>
 addW 1 x1 (fun x25 w =>
 storeW 1 x25 x24 (fun _ w =>
 andP (fun w => trueP w) (fun w =>
 j2  w) w) w) w) w) w) w) w) w) w) w) w) w) (fun w => binIntW .eql x12 (Value.int .i64 8) (fun x27 w =>
 joinW1 (fun x28 w =>
 joinW0 (fun  w =>
 j2  w) (fun j4 w =>
 condP x28 (fun w => drewW (fun w => addW 1 x1 (fun x29 w =>
 load1W x29 (fun x30 w =>
 nilW a1 (fun x31 w =>
 addW 8 x31 (fun x32 w =>
 load1W x32 (fun x33 w =>
 lenW x33 (fun x34 w =>
 CP Try.prog Fn.book_Within [x30, (Value.int .i64 (-1)), x34] (fun x35 w =>
 andP (fun w => andP (fun w => trueP w) (fun w => andP (fun w => trueP w) (fun w => trueP w) w) w) (fun w =>
 addW 1 x1 (fun x36 w =>
 storeW 1 x36 x35 (fun _ w =>
 andP (fun w => trueP w) (fun w =>
 j4  w) w) w) w) w) w) w) w) w) w) w) w) w) (fun w => binIntW .eql x12 (Value.int .i64 7) (fun x38 w =>
 joinW0 (fun  w =>
 j4  w) (fun j5 w =>
 condP x38 (fun w => drewW (fun w => nilW a1 (fun x39 w =>
 addW 7 x39 (fun x40 w =>
 load1W x40 (fun x41 w =>
 addW 2 x1 (fun x42 w =>
 load1W x42 (fun x43 w =>
 binIntW .rem x43 (Value.int .u64 2) (fun x44 w =>
 binIntW .sub x41 x44 (fun x45 w =>
 addW 2 x1 (fun x46 w =>
 storeW 1 x46 x45 (fun _ w =>
 andP (fun w => andP (fun w => trueP w) (fun w => andP (fun w => trueP w) (fun w => trueP w) w) w) (fun w =>
 addW 2 x1 (fun x48 w =>
 load1W x48 (fun x49 w =>
 addW 3 x1 (fun x50 w =>
 load1W x50 (fun x51 w =>
 binIntW .rem x51 (Value.int .u64 3) (fun x52 w =>
 binIntW .add x49 x52 (fun x53 w =>
 addW 3 x1 (fun x54 w =>
 storeW 1 x54 x53 (fun _ w =>
 j5  w) w) w) w) w) w) w) w) w) w) w) w) w) w) w) w) w) w) w) w) (fun w => drewW (fun w => addW 1 x1 (fun x56 w =>
 load1W x56 (fun x57 w =>
 nilW a1 (fun x58 w =>
 addW 6 x58 (fun x59 w =>
 load1W x59 (fun x60 w =>
 lenW x60 (fun x61 w =>
 CP Try.prog Fn.book_Within [x57, (Value.int .i64 (-1)), x61] (fun x62 w =>
 andP (fun w => andP (fun w => trueP w) (fun w => andP (fun w => trueP w) (fun w => trueP w) w) w) (fun w =>
 addW 1 x1 (fun x63 w =>
 storeW 1 x63 x62 (fun _ w =>
 andP (fun w => trueP w) (fun w =>
 addW 7 x1 (fun x65 w =>
 addW 0 x65 (fun x66 w =>
 load1W x66 (fun x67 w =>
 binIntW .rem x67 (Value.int .u64 9) (fun x68 w =>
 addW 7 x1 (fun x69 w =>
 addW 0 x69 (fun x70 w =>
 storeW 1 x70 x68 (fun _ w =>
 addW 7 x1 (fun x72 w =>
 addW 2 x72 (fun x73 w =>
 load1W x73 (fun x74 w =>
 CP Try.prog Fn.book_Within [x74, (Value.int .i64 0), (Value.int .i64 4)] (fun x75 w =>
 addW 7 x1 (fun x76 w =>
 addW 2 x76 (fun x77 w =>
 storeW 1 x77 x75 (fun _ w =>
 addW 7 x1 (fun x79 w =>
 addW 1 x79 (fun x80 w =>
 load1W x80 (fun x81 w =>
 notW x81 (fun x82 w =>
 joinW0 (fun  w =>
 drewW (fun w => addW 4 x1 (fun x83 w =>
 addW 0 x83 (fun x84 w =>
 load1W x84 (fun x85 w =>
 binIntW .rem x85 (Value.int .u64 3) (fun x86 w =>
 binIntW .gtr x86 (Value.int .u64 0) (fun x87 w =>
 gW x87 true (fun K w => addW 1 x1 K w) (fun x88 w =>
 gW x87 true (fun K w => load1W x88 K w) (fun x89 w =>
 gW x87 true (fun K w => binIntW .geq x89 (Value.int .i64 0) K w) (fun x90 w =>
 pickW x87 x90 (Value.bool false) (fun x91 w =>
 gW x91 true (fun K w => addW 1 x1 K w) (fun x92 w =>
 gW x91 true (fun K w => load1W x92 K w) (fun x93 w =>
 gW x91 true (fun K w => K a1 w) (fun x94 w =>
 gW x91 true (fun K w => nilW x94 K w) (fun x95 w =>
 gW x91 true (fun K w => addW 6 x95 K w) (fun x96 w =>
 gW x91 true (fun K w => load1W x96 K w) (fun x97 w =>
 gW x91 true (fun K w => lenW x97 K w) (fun x98 w =>
 gW x91 true (fun K w => binIntW .lss x93 x98 K w) (fun x99 w =>
 pickW x91 x99 (Value.bool false) (fun x100 w =>
 joinW0 (fun  w =>
 j5  w) (fun j7 w =>
 condP x100 (fun w => drewW (fun w => nilW a1 (fun x101 w =>
 addW 6 x101 (fun x102 w =>
 load1W x102 (fun x103 w =>
 addW 1 x1 (fun x104 w =>
 load1W x104 (fun x105 w =>
 idxW 3 x103 x105 (fun x106 w =>
 loadNW 3 x106 (fun x107 w =>
 addW 4 x1 (fun x108 w =>
 storeW 3 x108 x107 (fun _ w =>
 andP (fun w => andP (fun w => trueP w) (fun w => andP (fun w => trueP w) (fun w => andP (fun w => trueP w) (fun w => trueP w) w) w) w) (fun w =>
 j7  w) w) w) w) w) w) w) w) w) w) w) w) (fun w => j7  w) w) w) w) w) w) w) w) w) w) w) w) w) w) w) w) w) w) w) w) w) w) (fun j6 w =>
 condP x82 (fun w => addW 7 x1 (fun x110 w =>
 addW 2 x110 (fun x111 w =>
 storeW 1 x111 (Value.int .i64 0) (fun _ w =>
 j6  w) w) w) w) (fun w => j6  w) w) w) w) w) w) w) w) w) w) w) w) w) w) w) w) w) w) w) w) w) w) w) w) w) w) w) w) w) w) w) w) w) w) w) w) w) w) (fun j3 w =>
 condP x27 (fun w => j3 x27 w) (fun w => binIntW .eql x12 (Value.int .i64 9) (fun x113 w =>
 j3 x113 w) w) w) w) w) w) w) (fun j1 w =>
 condP x13 (fun w => j1 x13 w) (fun w => binIntW .eql x12 (Value.int .i64 2) (fun x114 w =>
 j1 x114 w) w) w) w) w) w) w) w) w) w) w) w) w) w) w

/-- ref1_Mem_Copy -/
def S_ref1_Mem_Copy (a0 : Value) (K : KV) : World → Prop := fun w =>
 drewW (fun w => nilW a0 (fun x1 w =>
 addW 0 x1 (fun x2 w =>
 loadNW 5 x2 (fun x3 w =>
 nilW a0 (fun x4 w =>
 addW 5 x4 (fun x5 w =>
 load1W x5 (fun x6 w =>
 nilW a0 (fun x7 w =>
 addW 6 x7 (fun x8 w =>
 load1W x8 (fun x9 w =>
 nilW a0 (fun x10 w =>
 addW 7 x10 (fun x11 w =>
 load1W x11 (fun x12 w =>
 nilW a0 (fun x13 w =>
 addW 8 x13 (fun x14 w =>
 load1W x14 (fun x15 w =>
 nilW a0 (fun x16 w =>
 addW 9 x16 (fun x17 w =>
 load1W x17 (fun x18 w =>
 appendW 1 8 (Value.slice none 0 0) x6 (fun x19 w =>
 andP (fun w => andP (fun w => load1W x17 (fun v w => eqP v x18 w) w) (fun w => andP (fun w => load1W x14 (fun v w => eqP v x15 w) w) (fun w => andP (fun w => load1W x11 (fun v w => eqP v x12 w) w) (fun w => andP (fun w => load1W x8 (fun v w => eqP v x9 w) w) (fun w => andP (fun w => trueP w) (fun w => andP (fun w => loadNW 5 x2 (fun v w => eqP v x3 w) w) (fun w => trueP w) w) w) w) w) w) w) (fun w =>
 appendW 3 24 (Value.slice none 0 0) x9 (fun x20 w =>
 andP (fun w => andP (fun w => load1W x17 (fun v w => eqP v x18 w) w) (fun w => andP (fun w => load1W x14 (fun v w => eqP v x15 w) w) (fun w => andP (fun w => load1W x11 (fun v w => eqP v x12 w) w) (fun w => andP (fun w => trueP w) (fun w => andP (fun w => loadNW 5 x2 (fun v w => eqP v x3 w) w) (fun w => trueP w) w) w) w) w) w) (fun w =>
 appendW 1 8 (Value.slice none 0 0) x15 (fun x21 w =>
 andP (fun w => andP (fun w => load1W x17 (fun v w => eqP v x18 w) w) (fun w => andP (fun w => trueP w) (fun w => andP (fun w => load1W x11 (fun v w => eqP v x12 w) w) (fun w => andP (fun w => loadNW 5 x2 (fun v w => eqP v x3 w) w) (fun w => trueP w) w) w) w) w) (fun w =>
 buildW [(Value.int .i64 0), (Value.int .i64 0), (Value.int .i64 0), (Value.int .i64 0), (Value.int .u64 0), (Value.slice none 0 0), (Value.slice none 0 0), (Value.int .u64 0), (Value.slice none 0 0), (Value.int .i64 0)] [(0, 5, x3), (5, 1, x19), (6, 1, x20), (7, 1, x12), (8, 1, x21), (9, 1, x18)] (fun x22 w =>
 boxW x22 (fun x23 w =>
 andP (fun w => andP (fun w => trueP w) (fun w => andP (fun w => trueP w) (fun w => andP (fun w => trueP w) (fun w => trueP w) w) w) w) (fun w =>
 K x23 w) w) w) w) w) w) w) w) w) w) w) w) w) w) w) w) w) w) w) w) w) w) w) w) w) w) w) w) w

/-- levels_fresh -/
def S_levels_fresh (K : KV) : World → Prop := fun w =>
 CP Try.prog Fn.writes_New [(Value.int .i64 96)] (fun x1 w =>
 buildW [(Value.pointer none), (Value.slice none 0 0)] [(0, 1, x1)] (fun x2 w =>
 boxW x2 (fun x3 w =>
 K x3 w) w) w) w

/-- levels_Levels_in -/
def S_levels_Levels_in (a0 : Value) (K : KV) : World → Prop := fun w =>
 drewW (fun w => nilW a0 (fun x1 w =>
 addW 1 x1 (fun x2 w =>
 load1W x2 (fun x3 w =>
 nilW a0 (fun x4 w =>
 addW 1 x4 (fun x5 w =>
 load1W x5 (fun x6 w =>
 lenW x6 (fun x7 w =>
 binIntW .sub x7 (Value.int .i64 1) (fun x8 w =>
 idxW 1 x3 x8 (fun x9 w =>
 load1W x9 (fun x10 w =>
 K x10 w) w) w) w) w) w) w) w) w) w) w) w

/-- writes_Writes_Get -/
def S_writes_Writes_Get (a0 a1 : Value) (K : KV) : World → Prop := fun w =>
 CP Try.prog Fn.writes_Writes_find [a0, a1] (fun x1 w =>
 binIntW .geq x1 (Value.int .i64 0) (fun x2 w =>
 condP x2 (fun w => nilW a0 (fun x3 w =>
 addW 1 x3 (fun x4 w =>
 load1W x4 (fun x5 w =>
 idxW 2 x5 x1 (fun x6 w =>
 addW 1 x6 (fun x7 w =>
 load1W x7 (fun x8 w =>
 K (Value.tuple #[x8, (Value.bool true)]) w) w) w) w) w) w) w) (fun w => K (Value.tuple #[(Value.int .u64 0), (Value.bool false)]) w) w) w) w

/-- writes_Writes_Put -/
def S_writes_Writes_Put (a0 a1 a2 : Value) (K : KV) : World → Prop := fun w =>
 binIntW .lss a1 (Value.int .i64 1) (fun x1 w =>
 gW x1 false (fun K w => K a1 w) (fun x2 w =>
 gW x1 false (fun K w => binIntW .geq x2 (Value.int .i64 256) K w) (fun x3 w =>
 pickW x1 (Value.bool true) x3 (fun x4 w =>
 condP x4 (fun w => K (Value.int .i64 2) w) (fun w => CP Try.prog Fn.writes_Writes_find [a0, a1] (fun x5 w =>
 binIntW .geq x5 (Value.int .i64 0) (fun x6 w =>
 condP x6 (fun w => nilW a0 (fun x7 w =>
 addW 1 x7 (fun x8 w =>
 load1W x8 (fun x9 w =>
 idxW 2 x9 x5 (fun x10 w =>
 addW 1 x10 (fun x11 w =>
 storeW 1 x11 a2 (fun _ w =>
 K (Value.int .i64 0) w) w) w) w) w) w) w) (fun w => drewW (fun w => nilW a0 (fun x13 w =>
 addW 1 x13 (fun x14 w =>
 load1W x14 (fun x15 w =>
 lenW x15 (fun x16 w =>
 nilW a0 (fun x17 w =>
 addW 0 x17 (fun x18 w =>
 load1W x18 (fun x19 w =>
 binIntW .geq x16 x19 (fun x20 w =>
 condP x20 (fun w => K (Value.int .i64 5) w) (fun w => nilW a0 (fun x21 w =>
 addW 1 x21 (fun x22 w =>
 load1W x22 (fun x23 w =>
 buildW [(Value.int .i64 0), (Value.int .u64 0)] [(0, 1, a1), (1, 1, a2)] (fun x24 w =>
 buildSliceW [(Value.int .i64 0), (Value.int .u64 0)] 1 [(0, 2, x24)] (fun x25 w =>
 appendW 2 16 x23 x25 (fun x26 w =>
 nilW a0 (fun x27 w =>
 addW 1 x27 (fun x28 w =>
 storeW 1 x28 x26 (fun _ w =>
 K (Value.int .i64 0) w) w) w) w) w) w) w) w) w) w) w) w) w) w) w) w) w) w) w) w) w) w) w) w) w) w) w) w

/-- slices_Backward_levels_level_levels_level -/
def S_slices_Backward_levels_level_levels_level (a0 : Value) (K : KV) : World → Prop := fun w =>
 boxW a0 (fun x1 w =>
 K (Value.func (.func Fn.slices_Backward_levels_level_levels_level_1) #[] #[x1]) w) w

/-- writes_Writes_Take -/
def S_writes_Writes_Take (a0 a1 : Value) (K : KV) : World → Prop := fun w =>
 CP Try.prog Fn.writes_Writes_All [a0] (fun x1 w =>
 lenW a1 (fun x2 w =>
 loopW1 (Value.int .i64 0) (fun J1 x3 w =>
 binIntW .lss x3 x2 (fun x4 w =>
 condP x4 (fun w => idxW 2 a1 x3 (fun x5 w =>
 loadNW 2 x5 (fun x6 w =>
 newW #[(Value.int .i64 0), (Value.int .u64 0)] (fun x7 w =>
 storeW 2 x7 x6 (fun _ w =>
 addW 0 x7 (fun x9 w =>
 load1W x9 (fun x10 w =>
 addW 1 x7 (fun x11 w =>
 load1W x11 (fun x12 w =>
 CP Try.prog Fn.writes_Writes_Put [a0, x10, x12] (fun x13 w =>
 binIntW .neq x13 (Value.int .i64 0) (fun x14 w =>
 condP x14 (fun w => nilW a0 (fun x15 w =>
 addW 1 x15 (fun x16 w =>
 storeW 1 x16 x1 (fun _ w =>
 K x13 w) w) w) w) (fun w => binIntW .add x3 (Value.int .i64 1) (fun x18 w =>
 J1 x18 w) w) w) w) w) w) w) w) w) w) w) w) w) (fun w => K (Value.int .i64 0) w) w) w) w) w) w

/-- writes_Writes_All -/
def S_writes_Writes_All (a0 : Value) (K : KV) : World → Prop := fun w =>
 nilW a0 (fun x1 w =>
 addW 1 x1 (fun x2 w =>
 load1W x2 (fun x3 w =>
 CP Try.prog Fn.slices_Clone_api_Cell_api_Cell [x3] (fun x4 w =>
 K x4 w) w) w) w) w

/-- writes_New -/
def S_writes_New (a0 : Value) (K : KV) : World → Prop := fun w =>
 minW a0 [(Value.int .i64 96)] (fun x1 w =>
 maxW (Value.int .i64 0) [x1] (fun x2 w =>
 buildW [(Value.int .i64 0), (Value.slice none 0 0)] [(0, 1, x2)] (fun x3 w =>
 boxW x3 (fun x4 w =>
 K x4 w) w) w) w) w

/-- writes_Writes_Len -/
def S_writes_Writes_Len (a0 : Value) (K : KV) : World → Prop := fun w =>
 nilW a0 (fun x1 w =>
 addW 1 x1 (fun x2 w =>
 load1W x2 (fun x3 w =>
 lenW x3 (fun x4 w =>
 K x4 w) w) w) w) w

/-- book_Within -/
def S_book_Within (a0 a1 a2 : Value) (K : KV) : World → Prop := fun w =>
 binIntW .sub a2 a1 (fun x1 w =>
 binIntW .add x1 (Value.int .i64 1) (fun x2 w =>
 binIntW .rem a0 x2 (fun x3 w =>
 binIntW .lss x3 (Value.int .i64 0) (fun x4 w =>
 joinW1 (fun x5 w =>
 binIntW .add a1 x5 (fun x6 w =>
 K x6 w) w) (fun j1 w =>
 condP x4 (fun w => binIntW .add x3 a2 (fun x7 w =>
 binIntW .sub x7 a1 (fun x8 w =>
 binIntW .add x8 (Value.int .i64 1) (fun x9 w =>
 j1 x9 w) w) w) w) (fun w => j1 x3 w) w) w) w) w) w) w

/-- ref1_Held -/
def S_ref1_Held (a0 a1 a2 : Value) (K : KV) : World → Prop := fun w =>
 binIntW .lss a0 a1 (fun x1 w =>
 condP x1 (fun w => K a1 w) (fun w => binIntW .gtr a0 a2 (fun x2 w =>
 condP x2 (fun w => K a2 w) (fun w => K a0 w) w) w) w) w

/-- ref7_Levels_Open -/
def S_ref7_Levels_Open (a0 : Value) (K : KV) : World → Prop := fun w =>
 nilW a0 (fun x1 w =>
 addW 1 x1 (fun x2 w =>
 load1W x2 (fun x3 w =>
 lenW x3 (fun x4 w =>
 binIntW .geq x4 (Value.int .i64 6) (fun x5 w =>
 condP x5 (fun w => K (Value.int .i64 9) w) (fun w => nilW a0 (fun x6 w =>
 addW 1 x6 (fun x7 w =>
 load1W x7 (fun x8 w =>
 buildW [(Value.slice none 0 0), (Value.slice none 0 0)] [] (fun x9 w =>
 buildSliceW [(Value.slice none 0 0), (Value.slice none 0 0)] 1 [(0, 2, x9)] (fun x10 w =>
 appendW 2 48 x8 x10 (fun x11 w =>
 nilW a0 (fun x12 w =>
 addW 1 x12 (fun x13 w =>
 storeW 1 x13 x11 (fun _ w =>
 K (Value.int .i64 0) w) w) w) w) w) w) w) w) w) w) w) w) w) w) w) w

/-- ref7_Levels_Keep -/
def S_ref7_Levels_Keep (a0 : Value) (K : KV) : World → Prop := fun w =>
 nilW a0 (fun x1 w =>
 addW 1 x1 (fun x2 w =>
 load1W x2 (fun x3 w =>
 lenW x3 (fun x4 w =>
 binIntW .eql x4 (Value.int .i64 1) (fun x5 w =>
 condP x5 (fun w => K (Value.int .i64 10) w) (fun w => nilW a0 (fun x6 w =>
 addW 1 x6 (fun x7 w =>
 load1W x7 (fun x8 w =>
 binIntW .sub x4 (Value.int .i64 1) (fun x9 w =>
 idxW 2 x8 x9 (fun x10 w =>
 loadNW 2 x10 (fun x11 w =>
 newW #[(Value.slice none 0 0), (Value.slice none 0 0)] (fun x12 w =>
 storeW 2 x12 x11 (fun _ w =>
 nilW a0 (fun x14 w =>
 addW 1 x14 (fun x15 w =>
 load1W x15 (fun x16 w =>
 binIntW .sub x4 (Value.int .i64 2) (fun x17 w =>
 idxW 2 x16 x17 (fun x18 w =>
 loadNW 2 x18 (fun x19 w =>
 newW #[(Value.slice none 0 0), (Value.slice none 0 0)] (fun x20 w =>
 storeW 2 x20 x19 (fun _ w =>
 loopW1 (Value.int .i64 0) (fun J1 x22 w =>
 addW 0 x12 (fun x23 w =>
 load1W x23 (fun x24 w =>
 lenW x24 (fun x25 w =>
 binIntW .lss x22 x25 (fun x26 w =>
 condP x26 (fun w => drewW (fun w => addW 0 x20 (fun x27 w =>
 load1W x27 (fun x28 w =>
 addW 0 x12 (fun x29 w =>
 load1W x29 (fun x30 w =>
 idxW 2 x30 x22 (fun x31 w =>
 addW 0 x31 (fun x32 w =>
 load1W x32 (fun x33 w =>
 addW 0 x12 (fun x34 w =>
 load1W x34 (fun x35 w =>
 idxW 2 x35 x22 (fun x36 w =>
 addW 1 x36 (fun x37 w =>
 load1W x37 (fun x38 w =>
 CP Try.prog Fn.ref7_Put [x28, x33, x38] (fun x39 w =>
 andP (fun w => andP (fun w => trueP w) (fun w => andP (fun w => trueP w) (fun w => andP (fun w => trueP w) (fun w => andP (fun w => trueP w) (fun w => andP (fun w => trueP w) (fun w => trueP w) w) w) w) w) w) (fun w =>
 addW 0 x20 (fun x40 w =>
 storeW 1 x40 x39 (fun _ w =>
 andP (fun w => trueP w) (fun w =>
 binIntW .add x22 (Value.int .i64 1) (fun x42 w =>
 J1 x42 w) w) w) w) w) w) w) w) w) w) w) w) w) w) w) w) w) w) w) w) (fun w => drewW (fun w => addW 1 x20 (fun x43 w =>
 load1W x43 (fun x44 w =>
 addW 1 x12 (fun x45 w =>
 load1W x45 (fun x46 w =>
 appendW 1 8 (Value.slice none 0 0) x44 (fun x47 w =>
 andP (fun w => andP (fun w => load1W x45 (fun v w => eqP v x46 w) w) (fun w => andP (fun w => trueP w) (fun w => trueP w) w) w) (fun w =>
 appendW 1 8 x47 x46 (fun x48 w =>
 andP (fun w => andP (fun w => trueP w) (fun w => trueP w) w) (fun w =>
 addW 1 x20 (fun x49 w =>
 storeW 1 x49 x48 (fun _ w =>
 andP (fun w => trueP w) (fun w =>
 nilW a0 (fun x51 w =>
 addW 1 x51 (fun x52 w =>
 load1W x52 (fun x53 w =>
 binIntW .sub x4 (Value.int .i64 1) (fun x54 w =>
 sliceW 2 x53 none (some x54) (fun x55 w =>
 nilW a0 (fun x56 w =>
 addW 1 x56 (fun x57 w =>
 storeW 1 x57 x55 (fun _ w =>
 drewW (fun w => nilW a0 (fun x59 w =>
 addW 1 x59 (fun x60 w =>
 load1W x60 (fun x61 w =>
 binIntW .sub x4 (Value.int .i64 2) (fun x62 w =>
 loadNW 2 x20 (fun x63 w =>
 idxW 2 x61 x62 (fun x64 w =>
 storeW 2 x64 x63 (fun _ w =>
 andP (fun w => andP (fun w => trueP w) (fun w => andP (fun w => trueP w) (fun w => trueP w) w) w) (fun w =>
 K (Value.int .i64 0) w) w) w) w) w) w) w) w) w) w) w) w) w) w) w) w) w) w) w) w) w) w) w) w) w) w) w) w) w) w) w) w) w) w) w) w) w) w) w) w) w) w) w) w) w) w) w) w) w) w) w) w) w) w) w) w) w) w

/-- ref7_Levels_Drop -/
def S_ref7_Levels_Drop (a0 : Value) (K : KV) : World → Prop := fun w =>
 nilW a0 (fun x1 w =>
 addW 1 x1 (fun x2 w =>
 load1W x2 (fun x3 w =>
 lenW x3 (fun x4 w =>
 binIntW .eql x4 (Value.int .i64 1) (fun x5 w =>
 condP x5 (fun w => K (Value.int .i64 10) w) (fun w => drewW (fun w => nilW a0 (fun x6 w =>
 addW 1 x6 (fun x7 w =>
 load1W x7 (fun x8 w =>
 nilW a0 (fun x9 w =>
 addW 1 x9 (fun x10 w =>
 load1W x10 (fun x11 w =>
 lenW x11 (fun x12 w =>
 binIntW .sub x12 (Value.int .i64 1) (fun x13 w =>
 sliceW 2 x8 none (some x13) (fun x14 w =>
 nilW a0 (fun x15 w =>
 addW 1 x15 (fun x16 w =>
 storeW 1 x16 x14 (fun _ w =>
 andP (fun w => andP (fun w => trueP w) (fun w => andP (fun w => trueP w) (fun w => trueP w) w) w) (fun w =>
 K (Value.int .i64 0) w) w) w) w) w) w) w) w) w) w) w) w) w) w) w) w) w) w) w) w) w

/-- ref7_Levels_Free -/
def S_ref7_Levels_Free (a0 a1 : Value) (K : KV) : World → Prop := fun w =>
 nilW a0 (fun x1 w =>
 addW 1 x1 (fun x2 w =>
 load1W x2 (fun x3 w =>
 lenW x3 (fun x4 w =>
 binIntW .sub x4 (Value.int .i64 1) (fun x5 w =>
 drewW (fun w => nilW a0 (fun x6 w =>
 addW 1 x6 (fun x7 w =>
 load1W x7 (fun x8 w =>
 nilW a0 (fun x9 w =>
 addW 1 x9 (fun x10 w =>
 load1W x10 (fun x11 w =>
 idxW 2 x11 x5 (fun x12 w =>
 addW 1 x12 (fun x13 w =>
 load1W x13 (fun x14 w =>
 andP (fun w => appendW 1 8 (Value.slice none 0 0) x14 (fun x15 w =>
 andP (fun w => andP (fun w => trueP w) (fun w => andP (fun w => trueP w) (fun w => andP (fun w => load1W x7 (fun v w => eqP v x8 w) w) (fun w => trueP w) w) w) w) (fun w =>
 buildSliceW [(Value.int .i64 0)] 1 [(0, 1, a1)] (fun x16 w =>
 andP (fun w => andP (fun w => load1W x7 (fun v w => eqP v x8 w) w) (fun w => trueP w) w) (fun w =>
 appendW 1 8 x15 x16 (fun x17 w =>
 andP (fun w => andP (fun w => load1W x7 (fun v w => eqP v x8 w) w) (fun w => trueP w) w) (fun w =>
 idxW 2 x8 x5 (fun x18 w =>
 addW 1 x18 (fun x19 w =>
 storeW 1 x19 x17 (fun _ w =>
 andP (fun w => andP (fun w => trueP w) (fun w => trueP w) w) (fun w =>
 K (Value.tuple #[]) w) w) w) w) w) w) w) w) w) w) w) (fun w => buildSliceW [(Value.int .i64 0)] 1 [(0, 1, a1)] (fun x21 w =>
 andP (fun w => andP (fun w => load1W x13 (fun v w => eqP v x14 w) w) (fun w => andP (fun w => load1W x10 (fun v w => eqP v x11 w) w) (fun w => andP (fun w => load1W x7 (fun v w => eqP v x8 w) w) (fun w => trueP w) w) w) w) (fun w =>
 appendW 1 8 (Value.slice none 0 0) x14 (fun x22 w =>
 andP (fun w => andP (fun w => trueP w) (fun w => andP (fun w => trueP w) (fun w => andP (fun w => load1W x7 (fun v w => eqP v x8 w) w) (fun w => trueP w) w) w) w) (fun w =>
 appendW 1 8 x22 x21 (fun x23 w =>
 andP (fun w => andP (fun w => load1W x7 (fun v w => eqP v x8 w) w) (fun w => trueP w) w) (fun w =>
 idxW 2 x8 x5 (fun x24 w =>
 addW 1 x24 (fun x25 w =>
 storeW 1 x25 x23 (fun _ w =>
 andP (fun w => andP (fun w => trueP w) (fun w => trueP w) w) (fun w =>
 K (Value.tuple #[]) w) w) w) w) w) w) w) w) w) w) w) w) w) w) w) w) w) w) w) w) w) w) w) w) w) w) w

/-- law9_place -/
def S_law9_place (a0 a1 : Value) (K : KV) : World → Prop := fun w =>
 binIntW .rem a1 (Value.int .i64 9) (fun x1 w =>
 binIntW .eql x1 (Value.int .i64 8) (fun x2 w =>
 condP x2 (fun w => K a0 w) (fun w => CP Try.prog Fn.book_Within [a0, (Value.int .i64 1), (Value.int .i64 20)] (fun x3 w =>
 K x3 w) w) w) w) w

/-- levels_Levels_Take -/
def S_levels_Levels_Take (a0 a1 : Value) (K : KV) : World → Prop := fun w =>
 CP Try.prog Fn.writes_New [(Value.int .i64 96)] (fun x1 w =>
 CP Try.prog Fn.levels_Levels_in [a0] (fun x2 w =>
 nilW x2 (fun x3 w =>
 addW 0 x3 (fun x4 w =>
 load1W x4 (fun x5 w =>
 CP Try.prog Fn.writes_Writes_All [x5] (fun x6 w =>
 CP Try.prog Fn.writes_Writes_Take [x1, x6] (fun x7 w =>
 lenW a1 (fun x8 w =>
 loopW1 (Value.int .i64 0) (fun J1 x9 w =>
 binIntW .lss x9 x8 (fun x10 w =>
 condP x10 (fun w => idxW 2 a1 x9 (fun x11 w =>
 loadNW 2 x11 (fun x12 w =>
 newW #[(Value.int .i64 0), (Value.int .u64 0)] (fun x13 w =>
 storeW 2 x13 x12 (fun _ w =>
 addW 0 x13 (fun x15 w =>
 load1W x15 (fun x16 w =>
 addW 1 x13 (fun x17 w =>
 load1W x17 (fun x18 w =>
 CP Try.prog Fn.levels_Levels_Put [a0, x16, x18] (fun x19 w =>
 binIntW .neq x19 (Value.int .i64 0) (fun x20 w =>
 condP x20 (fun w => CP Try.prog Fn.levels_Levels_in [a0] (fun x21 w =>
 nilW x21 (fun x22 w =>
 addW 0 x22 (fun x23 w =>
 storeW 1 x23 x1 (fun _ w =>
 K x19 w) w) w) w) w) (fun w => binIntW .add x9 (Value.int .i64 1) (fun x25 w =>
 J1 x25 w) w) w) w) w) w) w) w) w) w) w) w) w) (fun w => K (Value.int .i64 0) w) w) w) w) w) w) w) w) w) w) w) w

/-- ref7_Levels_Take -/
def S_ref7_Levels_Take (a0 a1 : Value) (K : KV) : World → Prop := fun w =>
 CP Try.prog Fn.ref7_Levels_Copy [a0] (fun x1 w =>
 loopW1 (Value.int .i64 0) (fun J1 x2 w =>
 lenW a1 (fun x3 w =>
 binIntW .lss x2 x3 (fun x4 w =>
 condP x4 (fun w => drewW (fun w => idxW 2 a1 x2 (fun x5 w =>
 addW 0 x5 (fun x6 w =>
 load1W x6 (fun x7 w =>
 idxW 2 a1 x2 (fun x8 w =>
 addW 1 x8 (fun x9 w =>
 load1W x9 (fun x10 w =>
 CP Try.prog Fn.ref7_Levels_Put [x1, x7, x10] (fun x11 w =>
 andP (fun w => andP (fun w => trueP w) (fun w => andP (fun w => trueP w) (fun w => trueP w) w) w) (fun w =>
 binIntW .neq x11 (Value.int .i64 0) (fun x12 w =>
 condP x12 (fun w => K x11 w) (fun w => binIntW .add x2 (Value.int .i64 1) (fun x13 w =>
 J1 x13 w) w) w) w) w) w) w) w) w) w) w) w) w) (fun w => nilW x1 (fun x14 w =>
 addW 1 x14 (fun x15 w =>
 load1W x15 (fun x16 w =>
 nilW a0 (fun x17 w =>
 addW 1 x17 (fun x18 w =>
 storeW 1 x18 x16 (fun _ w =>
 K (Value.int .i64 0) w) w) w) w) w) w) w) w) w) w) w) w

/-- ref7_Levels_Put -/
def S_ref7_Levels_Put (a0 a1 a2 : Value) (K : KV) : World → Prop := fun w =>
 binIntW .lss a1 (Value.int .i64 1) (fun x1 w =>
 gW x1 false (fun K w => K a1 w) (fun x2 w =>
 gW x1 false (fun K w => binIntW .geq x2 (Value.int .i64 256) K w) (fun x3 w =>
 pickW x1 (Value.bool true) x3 (fun x4 w =>
 condP x4 (fun w => K (Value.int .i64 2) w) (fun w => nilW a0 (fun x5 w =>
 addW 1 x5 (fun x6 w =>
 load1W x6 (fun x7 w =>
 lenW x7 (fun x8 w =>
 binIntW .sub x8 (Value.int .i64 1) (fun x9 w =>
 nilW a0 (fun x10 w =>
 addW 1 x10 (fun x11 w =>
 load1W x11 (fun x12 w =>
 idxW 2 x12 x9 (fun x13 w =>
 addW 0 x13 (fun x14 w =>
 load1W x14 (fun x15 w =>
 CP Try.prog Fn.ref7_Place [x15, a1] (fun x16 w =>
 binIntW .lss x16 (Value.int .i64 0) (fun x17 w =>
 gW x17 true (fun K w => K a0 w) (fun x18 w =>
 gW x17 true (fun K w => CP Try.prog Fn.ref7_Levels_Room [x18] K w) (fun x19 w =>
 gW x17 true (fun K w => binIntW .leq x19 (Value.int .i64 0) K w) (fun x20 w =>
 pickW x17 x20 (Value.bool false) (fun x21 w =>
 condP x21 (fun w => K (Value.int .i64 5) w) (fun w => drewW (fun w => nilW a0 (fun x22 w =>
 addW 1 x22 (fun x23 w =>
 load1W x23 (fun x24 w =>
 nilW a0 (fun x25 w =>
 addW 1 x25 (fun x26 w =>
 load1W x26 (fun x27 w =>
 idxW 2 x27 x9 (fun x28 w =>
 addW 0 x28 (fun x29 w =>
 load1W x29 (fun x30 w =>
 CP Try.prog Fn.ref7_Put [x30, a1, a2] (fun x31 w =>
 andP (fun w => andP (fun w => trueP w) (fun w => andP (fun w => trueP w) (fun w => andP (fun w => load1W x23 (fun v w => eqP v x24 w) w) (fun w => trueP w) w) w) w) (fun w =>
 idxW 2 x24 x9 (fun x32 w =>
 addW 0 x32 (fun x33 w =>
 storeW 1 x33 x31 (fun _ w =>
 andP (fun w => andP (fun w => trueP w) (fun w => trueP w) w) (fun w =>
 K (Value.int .i64 0) w) w) w) w) w) w) w) w) w) w) w) w) w) w) w) w) w) w) w) w) w) w) w) w) w) w) w) w) w) w) w) w) w) w) w) w) w) w) w) w

/-- ref7_Levels_Whole -/
def S_ref7_Levels_Whole (a0 : Value) (K : KV) : World → Prop := fun w =>
 newW #[(Value.slice none 0 0), (Value.slice none 0 0)] (fun x1 w =>
 CP Try.prog Fn.ref7_Levels_Copy [a0] (fun x2 w =>
 loopW0  (fun J1  w =>
 nilW x2 (fun x3 w =>
 addW 1 x3 (fun x4 w =>
 load1W x4 (fun x5 w =>
 lenW x5 (fun x6 w =>
 binIntW .gtr x6 (Value.int .i64 1) (fun x7 w =>
 condP x7 (fun w => CP Try.prog Fn.ref7_Levels_Keep [x2] (fun x8 w =>
 J1  w) w) (fun w => nilW x2 (fun x9 w =>
 addW 1 x9 (fun x10 w =>
 load1W x10 (fun x11 w =>
 idxW 2 x11 (Value.int .i64 0) (fun x12 w =>
 addW 0 x12 (fun x13 w =>
 load1W x13 (fun x14 w =>
 buildW [(Value.slice none 0 0), (Value.slice none 0 0)] [(0, 1, x14)] (fun x15 w =>
 newW #[(Value.slice none 0 0), (Value.slice none 0 0)] (fun x16 w =>
 storeW 2 x16 x15 (fun _ w =>
 loopW1 (Value.int .i64 0) (fun J2 x18 w =>
 nilW a0 (fun x19 w =>
 addW 1 x19 (fun x20 w =>
 load1W x20 (fun x21 w =>
 lenW x21 (fun x22 w =>
 binIntW .lss x18 x22 (fun x23 w =>
 condP x23 (fun w => drewW (fun w => addW 1 x16 (fun x24 w =>
 load1W x24 (fun x25 w =>
 nilW a0 (fun x26 w =>
 addW 1 x26 (fun x27 w =>
 load1W x27 (fun x28 w =>
 idxW 2 x28 x18 (fun x29 w =>
 addW 1 x29 (fun x30 w =>
 load1W x30 (fun x31 w =>
 appendW 1 8 x25 x31 (fun x32 w =>
 andP (fun w => andP (fun w => trueP w) (fun w => andP (fun w => trueP w) (fun w => andP (fun w => trueP w) (fun w => trueP w) w) w) w) (fun w =>
 addW 1 x16 (fun x33 w =>
 storeW 1 x33 x32 (fun _ w =>
 andP (fun w => trueP w) (fun w =>
 binIntW .add x18 (Value.int .i64 1) (fun x35 w =>
 J2 x35 w) w) w) w) w) w) w) w) w) w) w) w) w) w) w) w) (fun w => loadNW 2 x16 (fun x36 w =>
 storeW 2 x1 x36 (fun _ w =>
 loadNW 2 x1 (fun x38 w =>
 K x38 w) w) w) w) w) w) w) w) w) w) w) w) w) w) w) w) w) w) w) w) w) w) w) w) w) w) w) w) w

/-- ref7_Levels_Get -/
def S_ref7_Levels_Get (a0 a1 : Value) (K : KV) : World → Prop := fun w =>
 nilW a0 (fun x1 w =>
 addW 1 x1 (fun x2 w =>
 load1W x2 (fun x3 w =>
 lenW x3 (fun x4 w =>
 binIntW .sub x4 (Value.int .i64 1) (fun x5 w =>
 loopW1 x5 (fun J1 x6 w =>
 binIntW .geq x6 (Value.int .i64 0) (fun x7 w =>
 condP x7 (fun w => nilW a0 (fun x8 w =>
 addW 1 x8 (fun x9 w =>
 load1W x9 (fun x10 w =>
 idxW 2 x10 x6 (fun x11 w =>
 addW 0 x11 (fun x12 w =>
 load1W x12 (fun x13 w =>
 CP Try.prog Fn.ref7_Place [x13, a1] (fun x14 w =>
 binIntW .geq x14 (Value.int .i64 0) (fun x15 w =>
 condP x15 (fun w => nilW a0 (fun x16 w =>
 addW 1 x16 (fun x17 w =>
 load1W x17 (fun x18 w =>
 idxW 2 x18 x6 (fun x19 w =>
 addW 0 x19 (fun x20 w =>
 load1W x20 (fun x21 w =>
 idxW 2 x21 x14 (fun x22 w =>
 addW 1 x22 (fun x23 w =>
 load1W x23 (fun x24 w =>
 K (Value.tuple #[x24, (Value.bool true)]) w) w) w) w) w) w) w) w) w) w) (fun w => binIntW .sub x6 (Value.int .i64 1) (fun x25 w =>
 J1 x25 w) w) w) w) w) w) w) w) w) w) w) (fun w => K (Value.tuple #[(Value.int .u64 0), (Value.bool false)]) w) w) w) w) w) w) w) w) w

/-- ref7_Levels_Room -/
def S_ref7_Levels_Room (a0 : Value) (K : KV) : World → Prop := fun w =>
 nilW a0 (fun x1 w =>
 addW 0 x1 (fun x2 w =>
 load1W x2 (fun x3 w =>
 loopW2 x3 (Value.int .i64 0) (fun J1 x4 x5 w =>
 nilW a0 (fun x6 w =>
 addW 1 x6 (fun x7 w =>
 load1W x7 (fun x8 w =>
 lenW x8 (fun x9 w =>
 binIntW .lss x5 x9 (fun x10 w =>
 condP x10 (fun w => nilW a0 (fun x11 w =>
 addW 1 x11 (fun x12 w =>
 load1W x12 (fun x13 w =>
 idxW 2 x13 x5 (fun x14 w =>
 addW 0 x14 (fun x15 w =>
 load1W x15 (fun x16 w =>
 lenW x16 (fun x17 w =>
 binIntW .sub x4 x17 (fun x18 w =>
 binIntW .add x5 (Value.int .i64 1) (fun x19 w =>
 J1 x18 x19 w) w) w) w) w) w) w) w) w) w) (fun w => K x4 w) w) w) w) w) w) w) w) w) w) w

/-- heap_New -/
def S_heap_New (a0 : Value) (K : KV) : World → Prop := fun w =>
 minW a0 [(Value.int .i64 256)] (fun x1 w =>
 maxW (Value.int .i64 32) [x1] (fun x2 w =>
 makeSliceW 8 [(Value.int .u64 0)] x2 x2 (fun x3 w =>
 buildW [(Value.slice none 0 0)] [(0, 1, x3)] (fun x4 w =>
 boxW x4 (fun x5 w =>
 K x5 w) w) w) w) w) w

/-- stripe_New -/
def S_stripe_New (a0 a1 : Value) (K : KV) : World → Prop := fun w =>
 drewW (fun w => CP Try.prog Fn.stripe_near [a0, (Value.int .i64 16)] (fun x1 w =>
 andP (fun w => trueP w) (fun w =>
 andP (fun w => makeSliceW 24 [(Value.int .u64 0), (Value.bool false), (Value.int .i64 0)] x1 x1 (fun x2 w =>
 andP (fun w => trueP w) (fun w =>
 CP Try.prog Fn.stripe_near [a1, (Value.int .i64 16)] (fun x3 w =>
 andP (fun w => trueP w) (fun w =>
 buildW [(Value.slice none 0 0), (Value.int .i64 0)] [(0, 1, x2), (1, 1, x3)] (fun x4 w =>
 boxW x4 (fun x5 w =>
 andP (fun w => trueP w) (fun w =>
 K x5 w) w) w) w) w) w) w) w) (fun w => CP Try.prog Fn.stripe_near [a1, (Value.int .i64 16)] (fun x6 w =>
 andP (fun w => trueP w) (fun w =>
 makeSliceW 24 [(Value.int .u64 0), (Value.bool false), (Value.int .i64 0)] x1 x1 (fun x7 w =>
 andP (fun w => trueP w) (fun w =>
 buildW [(Value.slice none 0 0), (Value.int .i64 0)] [(0, 1, x7), (1, 1, x6)] (fun x8 w =>
 boxW x8 (fun x9 w =>
 andP (fun w => trueP w) (fun w =>
 K x9 w) w) w) w) w) w) w) w) w) w) w) w

/-- clock_New -/
def S_clock_New (a0 : Value) (K : KV) : World → Prop := fun w =>
 minW a0 [(Value.int .u64 4611686018427387903)] (fun x1 w =>
 buildW [(Value.int .u64 0)] [(0, 1, x1)] (fun x2 w =>
 boxW x2 (fun x3 w =>
 K x3 w) w) w) w

/-- epoch_New -/
def S_epoch_New (a0 : Value) (K : KV) : World → Prop := fun w =>
 minW a0 [(Value.int .i64 4)] (fun x1 w =>
 maxW (Value.int .i64 1) [x1] (fun x2 w =>
 makeSliceW 8 [(Value.int .u64 0)] x2 x2 (fun x3 w =>
 buildW [(Value.slice none 0 0)] [(0, 1, x3)] (fun x4 w =>
 boxW x4 (fun x5 w =>
 K x5 w) w) w) w) w) w

/-- mem_Mem_do -/
def S_mem_Mem_do (a0 a1 : Value) (K : KV) : World → Prop := fun w =>
 boxW a1 (fun x1 w =>
 newW #[(Value.int .u64 0), (Value.int .u64 0), (Value.bool false), (Value.int .i64 0), (Value.bool false), (Value.int .i64 0)] (fun x2 w =>
 newW #[(Value.int .u64 0), (Value.int .u64 0), (Value.bool false), (Value.int .i64 0), (Value.bool false), (Value.int .i64 0)] (fun x3 w =>
 addW 0 x1 (fun x4 w =>
 load1W x4 (fun x5 w =>
 binIntW .eql x5 (Value.int .i64 1) (fun x6 w =>
 joinW0 (fun  w =>
 loadNW 6 x3 (fun x7 w =>
 storeW 6 x2 x7 (fun _ w =>
 loadNW 6 x2 (fun x9 w =>
 K x9 w) w) w) w) (fun j1 w =>
 condP x6 (fun w => drewW (fun w => nilW a0 (fun x10 w =>
 addW 5 x10 (fun x11 w =>
 load1W x11 (fun x12 w =>
 addW 1 x1 (fun x13 w =>
 load1W x13 (fun x14 w =>
 CP Try.prog Fn.heap_Heap_Load [x12, x14] (fun x15 w =>
 andP (fun w => andP (fun w => trueP w) (fun w => andP (fun w => trueP w) (fun w => trueP w) w) w) (fun w =>
 extractW 0 x15 (fun x16 w =>
 extractW 1 x15 (fun x17 w =>
 addW 0 x3 (fun x18 w =>
 storeW 1 x18 x16 (fun _ w =>
 andP (fun w => trueP w) (fun w =>
 addW 5 x3 (fun x20 w =>
 storeW 1 x20 x17 (fun _ w =>
 andP (fun w => trueP w) (fun w =>
 j1  w) w) w) w) w) w) w) w) w) w) w) w) w) w) w) w) w) (fun w => binIntW .eql x5 (Value.int .i64 2) (fun x22 w =>
 joinW0 (fun  w =>
 j1  w) (fun j2 w =>
 condP x22 (fun w => drewW (fun w => nilW a0 (fun x23 w =>
 addW 5 x23 (fun x24 w =>
 load1W x24 (fun x25 w =>
 addW 1 x1 (fun x26 w =>
 load1W x26 (fun x27 w =>
 addW 3 x1 (fun x28 w =>
 load1W x28 (fun x29 w =>
 CP Try.prog Fn.heap_Heap_Store [x25, x27, x29] (fun x30 w =>
 andP (fun w => andP (fun w => trueP w) (fun w => andP (fun w => trueP w) (fun w => andP (fun w => trueP w) (fun w => trueP w) w) w) w) (fun w =>
 addW 5 x3 (fun x31 w =>
 storeW 1 x31 x30 (fun _ w =>
 andP (fun w => trueP w) (fun w =>
 j2  w) w) w) w) w) w) w) w) w) w) w) w) w) w) (fun w => binIntW .eql x5 (Value.int .i64 3) (fun x33 w =>
 joinW0 (fun  w =>
 j2  w) (fun j3 w =>
 condP x33 (fun w => drewW (fun w => nilW a0 (fun x34 w =>
 addW 6 x34 (fun x35 w =>
 load1W x35 (fun x36 w =>
 addW 1 x1 (fun x37 w =>
 load1W x37 (fun x38 w =>
 CP Try.prog Fn.stripe_Table_Load [x36, x38] (fun x39 w =>
 andP (fun w => andP (fun w => trueP w) (fun w => andP (fun w => trueP w) (fun w => trueP w) w) w) (fun w =>
 extractW 0 x39 (fun x40 w =>
 extractW 1 x39 (fun x41 w =>
 addW 1 x3 (fun x42 w =>
 storeW 3 x42 x40 (fun _ w =>
 andP (fun w => trueP w) (fun w =>
 addW 5 x3 (fun x44 w =>
 storeW 1 x44 x41 (fun _ w =>
 andP (fun w => trueP w) (fun w =>
 j3  w) w) w) w) w) w) w) w) w) w) w) w) w) w) w) w) w) (fun w => binIntW .eql x5 (Value.int .i64 4) (fun x46 w =>
 joinW0 (fun  w =>
 j3  w) (fun j4 w =>
 condP x46 (fun w => drewW (fun w => nilW a0 (fun x47 w =>
 addW 6 x47 (fun x48 w =>
 load1W x48 (fun x49 w =>
 addW 1 x1 (fun x50 w =>
 load1W x50 (fun x51 w =>
 addW 4 x1 (fun x52 w =>
 loadNW 3 x52 (fun x53 w =>
 addW 7 x1 (fun x54 w =>
 loadNW 3 x54 (fun x55 w =>
 CP Try.prog Fn.stripe_Table_Cas [x49, x51, x53, x55] (fun x56 w =>
 andP (fun w => andP (fun w => trueP w) (fun w => andP (fun w => trueP w) (fun w => andP (fun w => trueP w) (fun w => andP (fun w => trueP w) (fun w => trueP w) w) w) w) w) (fun w =>
 extractW 0 x56 (fun x57 w =>
 extractW 1 x56 (fun x58 w =>
 addW 4 x3 (fun x59 w =>
 storeW 1 x59 x57 (fun _ w =>
 andP (fun w => trueP w) (fun w =>
 addW 5 x3 (fun x61 w =>
 storeW 1 x61 x58 (fun _ w =>
 andP (fun w => trueP w) (fun w =>
 j4  w) w) w) w) w) w) w) w) w) w) w) w) w) w) w) w) w) w) w) w) w) (fun w => binIntW .eql x5 (Value.int .i64 5) (fun x63 w =>
 joinW0 (fun  w =>
 j4  w) (fun j5 w =>
 condP x63 (fun w => drewW (fun w => nilW a0 (fun x64 w =>
 addW 6 x64 (fun x65 w =>
 load1W x65 (fun x66 w =>
 addW 1 x1 (fun x67 w =>
 load1W x67 (fun x68 w =>
 addW 7 x1 (fun x69 w =>
 loadNW 3 x69 (fun x70 w =>
 CP Try.prog Fn.stripe_Table_Store [x66, x68, x70] (fun x71 w =>
 andP (fun w => andP (fun w => trueP w) (fun w => andP (fun w => trueP w) (fun w => andP (fun w => trueP w) (fun w => trueP w) w) w) w) (fun w =>
 addW 5 x3 (fun x72 w =>
 storeW 1 x72 x71 (fun _ w =>
 andP (fun w => trueP w) (fun w =>
 j5  w) w) w) w) w) w) w) w) w) w) w) w) w) w) (fun w => binIntW .eql x5 (Value.int .i64 6) (fun x74 w =>
 joinW0 (fun  w =>
 j5  w) (fun j6 w =>
 condP x74 (fun w => nilW a0 (fun x75 w =>
 addW 7 x75 (fun x76 w =>
 load1W x76 (fun x77 w =>
 CP Try.prog Fn.clock_Clock_Load [x77] (fun x78 w =>
 addW 0 x3 (fun x79 w =>
 storeW 1 x79 x78 (fun _ w =>
 j6  w) w) w) w) w) w) w) (fun w => binIntW .eql x5 (Value.int .i64 7) (fun x81 w =>
 joinW0 (fun  w =>
 j6  w) (fun j7 w =>
 condP x81 (fun w => drewW (fun w => nilW a0 (fun x82 w =>
 addW 7 x82 (fun x83 w =>
 load1W x83 (fun x84 w =>
 addW 2 x1 (fun x85 w =>
 load1W x85 (fun x86 w =>
 addW 3 x1 (fun x87 w =>
 load1W x87 (fun x88 w =>
 CP Try.prog Fn.clock_Clock_Cas [x84, x86, x88] (fun x89 w =>
 andP (fun w => andP (fun w => trueP w) (fun w => andP (fun w => trueP w) (fun w => andP (fun w => trueP w) (fun w => trueP w) w) w) w) (fun w =>
 extractW 0 x89 (fun x90 w =>
 extractW 1 x89 (fun x91 w =>
 addW 4 x3 (fun x92 w =>
 storeW 1 x92 x90 (fun _ w =>
 andP (fun w => trueP w) (fun w =>
 addW 5 x3 (fun x94 w =>
 storeW 1 x94 x91 (fun _ w =>
 andP (fun w => trueP w) (fun w =>
 j7  w) w) w) w) w) w) w) w) w) w) w) w) w) w) w) w) w) w) w) (fun w => binIntW .eql x5 (Value.int .i64 8) (fun x96 w =>
 joinW0 (fun  w =>
 j7  w) (fun j8 w =>
 condP x96 (fun w => drewW (fun w => nilW a0 (fun x97 w =>
 addW 8 x97 (fun x98 w =>
 load1W x98 (fun x99 w =>
 addW 1 x1 (fun x100 w =>
 load1W x100 (fun x101 w =>
 CP Try.prog Fn.epoch_Slots_Load [x99, x101] (fun x102 w =>
 andP (fun w => andP (fun w => trueP w) (fun w => andP (fun w => trueP w) (fun w => trueP w) w) w) (fun w =>
 extractW 0 x102 (fun x103 w =>
 extractW 1 x102 (fun x104 w =>
 addW 0 x3 (fun x105 w =>
 storeW 1 x105 x103 (fun _ w =>
 andP (fun w => trueP w) (fun w =>
 addW 5 x3 (fun x107 w =>
 storeW 1 x107 x104 (fun _ w =>
 andP (fun w => trueP w) (fun w =>
 j8  w) w) w) w) w) w) w) w) w) w) w) w) w) w) w) w) w) (fun w => binIntW .eql x5 (Value.int .i64 9) (fun x109 w =>
 joinW0 (fun  w =>
 j8  w) (fun j9 w =>
 condP x109 (fun w => drewW (fun w => nilW a0 (fun x110 w =>
 addW 8 x110 (fun x111 w =>
 load1W x111 (fun x112 w =>
 addW 1 x1 (fun x113 w =>
 load1W x113 (fun x114 w =>
 addW 3 x1 (fun x115 w =>
 load1W x115 (fun x116 w =>
 CP Try.prog Fn.epoch_Slots_Store [x112, x114, x116] (fun x117 w =>
 andP (fun w => andP (fun w => trueP w) (fun w => andP (fun w => trueP w) (fun w => andP (fun w => trueP w) (fun w => trueP w) w) w) w) (fun w =>
 addW 5 x3 (fun x118 w =>
 storeW 1 x118 x117 (fun _ w =>
 andP (fun w => trueP w) (fun w =>
 j9  w) w) w) w) w) w) w) w) w) w) w) w) w) w) (fun w => addW 5 x3 (fun x120 w =>
 storeW 1 x120 (Value.int .i64 1) (fun _ w =>
 j9  w) w) w) w) w) w) w) w) w) w) w) w) w) w) w) w) w) w) w) w) w) w) w) w) w) w) w) w) w) w) w) w) w) w) w

/-- clock_Clock_Load -/
def S_clock_Clock_Load (a0 : Value) (K : KV) : World → Prop := fun w =>
 nilW a0 (fun x1 w =>
 addW 0 x1 (fun x2 w =>
 load1W x2 (fun x3 w =>
 K x3 w) w) w) w

/-- stripe_Table_Of -/
def S_stripe_Table_Of (a0 a1 : Value) (K : KV) : World → Prop := fun w =>
 drewW (fun w => nilW a0 (fun x1 w =>
 addW 0 x1 (fun x2 w =>
 load1W x2 (fun x3 w =>
 lenW x3 (fun x4 w =>
 nilW a0 (fun x5 w =>
 addW 1 x5 (fun x6 w =>
 load1W x6 (fun x7 w =>
 CP Try.prog Fn.stripe_Of [a1, x4, x7] (fun x8 w =>
 andP (fun w => andP (fun w => trueP w) (fun w => andP (fun w => trueP w) (fun w => trueP w) w) w) (fun w =>
 K x8 w) w) w) w) w) w) w) w) w) w) w

/-- heap_Heap_All -/
def S_heap_Heap_All (a0 : Value) (K : KV) : World → Prop := fun w =>
 nilW a0 (fun x1 w =>
 addW 0 x1 (fun x2 w =>
 load1W x2 (fun x3 w =>
 CP Try.prog Fn.slices_Clone_uint64_uint64 [x3] (fun x4 w =>
 K x4 w) w) w) w) w

/-- stripe_Table_All -/
def S_stripe_Table_All (a0 : Value) (K : KV) : World → Prop := fun w =>
 nilW a0 (fun x1 w =>
 addW 0 x1 (fun x2 w =>
 load1W x2 (fun x3 w =>
 CP Try.prog Fn.slices_Clone_api_Lock_api_Lock [x3] (fun x4 w =>
 K x4 w) w) w) w) w

/-- epoch_Slots_All -/
def S_epoch_Slots_All (a0 : Value) (K : KV) : World → Prop := fun w =>
 nilW a0 (fun x1 w =>
 addW 0 x1 (fun x2 w =>
 load1W x2 (fun x3 w =>
 CP Try.prog Fn.slices_Clone_uint64_uint64 [x3] (fun x4 w =>
 K x4 w) w) w) w) w

/-- heap_Heap_Copy -/
def S_heap_Heap_Copy (a0 : Value) (K : KV) : World → Prop := fun w =>
 CP Try.prog Fn.heap_Heap_All [a0] (fun x1 w =>
 buildW [(Value.slice none 0 0)] [(0, 1, x1)] (fun x2 w =>
 boxW x2 (fun x3 w =>
 K x3 w) w) w) w

/-- stripe_Table_Copy -/
def S_stripe_Table_Copy (a0 : Value) (K : KV) : World → Prop := fun w =>
 drewW (fun w => nilW a0 (fun x1 w =>
 addW 1 x1 (fun x2 w =>
 load1W x2 (fun x3 w =>
 CP Try.prog Fn.stripe_Table_All [a0] (fun x4 w =>
 andP (fun w => andP (fun w => load1W x2 (fun v w => eqP v x3 w) w) (fun w => trueP w) w) (fun w =>
 buildW [(Value.slice none 0 0), (Value.int .i64 0)] [(0, 1, x4), (1, 1, x3)] (fun x5 w =>
 boxW x5 (fun x6 w =>
 andP (fun w => andP (fun w => trueP w) (fun w => trueP w) w) (fun w =>
 K x6 w) w) w) w) w) w) w) w) w) w

/-- clock_Clock_Copy -/
def S_clock_Clock_Copy (a0 : Value) (K : KV) : World → Prop := fun w =>
 nilW a0 (fun x1 w =>
 addW 0 x1 (fun x2 w =>
 load1W x2 (fun x3 w =>
 buildW [(Value.int .u64 0)] [(0, 1, x3)] (fun x4 w =>
 boxW x4 (fun x5 w =>
 K x5 w) w) w) w) w) w

/-- epoch_Slots_Copy -/
def S_epoch_Slots_Copy (a0 : Value) (K : KV) : World → Prop := fun w =>
 CP Try.prog Fn.epoch_Slots_All [a0] (fun x1 w =>
 buildW [(Value.slice none 0 0)] [(0, 1, x1)] (fun x2 w =>
 boxW x2 (fun x3 w =>
 K x3 w) w) w) w

/-- ref1_Shape -/
def S_ref1_Shape (a0 : Value) (K : KV) : World → Prop := fun w =>
 boxW a0 (fun x1 w =>
 newW #[(Value.int .i64 0), (Value.int .i64 0), (Value.int .i64 0), (Value.int .i64 0), (Value.int .u64 0)] (fun x2 w =>
 addW 0 x1 (fun x3 w =>
 load1W x3 (fun x4 w =>
 CP Try.prog Fn.ref1_Held [x4, (Value.int .i64 32), (Value.int .i64 256)] (fun x5 w =>
 addW 0 x1 (fun x6 w =>
 storeW 1 x6 x5 (fun _ w =>
 addW 1 x1 (fun x8 w =>
 load1W x8 (fun x9 w =>
 CP Try.prog Fn.ref1_Held [x9, (Value.int .i64 1), (Value.int .i64 16)] (fun x10 w =>
 addW 1 x1 (fun x11 w =>
 storeW 1 x11 x10 (fun _ w =>
 addW 2 x1 (fun x13 w =>
 load1W x13 (fun x14 w =>
 CP Try.prog Fn.ref1_Held [x14, (Value.int .i64 1), (Value.int .i64 16)] (fun x15 w =>
 addW 2 x1 (fun x16 w =>
 storeW 1 x16 x15 (fun _ w =>
 addW 3 x1 (fun x18 w =>
 load1W x18 (fun x19 w =>
 CP Try.prog Fn.ref1_Held [x19, (Value.int .i64 1), (Value.int .i64 4)] (fun x20 w =>
 addW 3 x1 (fun x21 w =>
 storeW 1 x21 x20 (fun _ w =>
 addW 4 x1 (fun x23 w =>
 load1W x23 (fun x24 w =>
 binIntW .geq x24 (Value.int .u64 4611686018427387904) (fun x25 w =>
 joinW0 (fun  w =>
 loadNW 5 x1 (fun x26 w =>
 storeW 5 x2 x26 (fun _ w =>
 loadNW 5 x2 (fun x28 w =>
 K x28 w) w) w) w) (fun j1 w =>
 condP x25 (fun w => addW 4 x1 (fun x29 w =>
 storeW 1 x29 (Value.int .u64 4611686018427387903) (fun _ w =>
 j1  w) w) w) (fun w => j1  w) w) w) w) w) w) w) w) w) w) w) w) w) w) w) w) w) w) w) w) w) w) w) w) w) w) w) w

/-- book_Same_uint64 -/
def S_book_Same_uint64 (a0 a1 : Value) (K : KV) : World → Prop := fun w =>
 lenW a0 (fun x1 w =>
 lenW a1 (fun x2 w =>
 binIntW .neq x1 x2 (fun x3 w =>
 condP x3 (fun w => K (Value.bool false) w) (fun w => loopW1 (Value.int .i64 0) (fun J1 x4 w =>
 lenW a0 (fun x5 w =>
 binIntW .lss x4 x5 (fun x6 w =>
 condP x6 (fun w => drewW (fun w => idxW 1 a0 x4 (fun x7 w =>
 load1W x7 (fun x8 w =>
 idxW 1 a1 x4 (fun x9 w =>
 load1W x9 (fun x10 w =>
 binIntW .neq x8 x10 (fun x11 w =>
 condP x11 (fun w => K (Value.bool false) w) (fun w => binIntW .add x4 (Value.int .i64 1) (fun x12 w =>
 J1 x12 w) w) w) w) w) w) w) w) w) (fun w => K (Value.bool true) w) w) w) w) w) w) w) w) w

/-- book_Same_api_Lock -/
def S_book_Same_api_Lock (a0 a1 : Value) (K : KV) : World → Prop := fun w =>
 lenW a0 (fun x1 w =>
 lenW a1 (fun x2 w =>
 binIntW .neq x1 x2 (fun x3 w =>
 condP x3 (fun w => K (Value.bool false) w) (fun w => loopW1 (Value.int .i64 0) (fun J1 x4 w =>
 lenW a0 (fun x5 w =>
 binIntW .lss x4 x5 (fun x6 w =>
 condP x6 (fun w => drewW (fun w => idxW 3 a0 x4 (fun x7 w =>
 loadNW 3 x7 (fun x8 w =>
 idxW 3 a1 x4 (fun x9 w =>
 loadNW 3 x9 (fun x10 w =>
 eqAggW [.i .u64, .b, .i .i64] .neq x8 x10 (fun x11 w =>
 condP x11 (fun w => K (Value.bool false) w) (fun w => binIntW .add x4 (Value.int .i64 1) (fun x12 w =>
 J1 x12 w) w) w) w) w) w) w) w) w) (fun w => K (Value.bool true) w) w) w) w) w) w) w) w) w

/-- mem_Mem_Shape -/
def S_mem_Mem_Shape (a0 : Value) (K : KV) : World → Prop := fun w =>
 newW #[(Value.int .i64 0), (Value.int .i64 0), (Value.int .i64 0), (Value.int .i64 0), (Value.int .u64 0)] (fun x1 w =>
 nilW a0 (fun x2 w =>
 addW 0 x2 (fun x3 w =>
 loadNW 5 x3 (fun x4 w =>
 storeW 5 x1 x4 (fun _ w =>
 loadNW 5 x1 (fun x6 w =>
 K x6 w) w) w) w) w) w) w

/-- ref1_Mem_Do -/
def S_ref1_Mem_Do (a0 a1 : Value) (K : KV) : World → Prop := fun w =>
 boxW a1 (fun x1 w =>
 newW #[(Value.int .u64 0), (Value.int .u64 0), (Value.bool false), (Value.int .i64 0), (Value.bool false), (Value.int .i64 0)] (fun x2 w =>
 buildW [(Value.int .u64 0), (Value.int .u64 0), (Value.bool false), (Value.int .i64 0), (Value.bool false), (Value.int .i64 0)] [] (fun x3 w =>
 newW #[(Value.int .u64 0), (Value.int .u64 0), (Value.bool false), (Value.int .i64 0), (Value.bool false), (Value.int .i64 0)] (fun x4 w =>
 storeW 6 x4 x3 (fun _ w =>
 addW 0 x1 (fun x6 w =>
 load1W x6 (fun x7 w =>
 binIntW .eql x7 (Value.int .i64 1) (fun x8 w =>
 joinW1 (fun x9 w =>
 joinW0 (fun  w =>
 addW 5 x4 (fun x10 w =>
 load1W x10 (fun x11 w =>
 binIntW .eql x11 (Value.int .i64 0) (fun x12 w =>
 joinW0 (fun  w =>
 loadNW 6 x4 (fun x13 w =>
 storeW 6 x2 x13 (fun _ w =>
 loadNW 6 x2 (fun x15 w =>
 K x15 w) w) w) w) (fun j3 w =>
 condP x12 (fun w => nilW a0 (fun x16 w =>
 addW 9 x16 (fun x17 w =>
 load1W x17 (fun x18 w =>
 binIntW .add x18 (Value.int .i64 1) (fun x19 w =>
 nilW a0 (fun x20 w =>
 addW 9 x20 (fun x21 w =>
 storeW 1 x21 x19 (fun _ w =>
 j3  w) w) w) w) w) w) w) w) (fun w => j3  w) w) w) w) w) w) (fun j2 w =>
 condP x9 (fun w => loadNW 10 x1 (fun x23 w =>
 CP Try.prog Fn.ref1_Mem_word [a0, x23] (fun x24 w =>
 storeW 6 x4 x24 (fun _ w =>
 j2  w) w) w) w) (fun w => binIntW .eql x7 (Value.int .i64 3) (fun x26 w =>
 joinW1 (fun x27 w =>
 joinW0 (fun  w =>
 j2  w) (fun j5 w =>
 condP x27 (fun w => loadNW 10 x1 (fun x28 w =>
 CP Try.prog Fn.ref1_Mem_lock [a0, x28] (fun x29 w =>
 storeW 6 x4 x29 (fun _ w =>
 j5  w) w) w) w) (fun w => binIntW .eql x7 (Value.int .i64 6) (fun x31 w =>
 joinW1 (fun x32 w =>
 joinW0 (fun  w =>
 j5  w) (fun j7 w =>
 condP x32 (fun w => loadNW 10 x1 (fun x33 w =>
 CP Try.prog Fn.ref1_Mem_clock [a0, x33] (fun x34 w =>
 storeW 6 x4 x34 (fun _ w =>
 j7  w) w) w) w) (fun w => binIntW .eql x7 (Value.int .i64 8) (fun x36 w =>
 joinW1 (fun x37 w =>
 joinW0 (fun  w =>
 j7  w) (fun j9 w =>
 condP x37 (fun w => drewW (fun w => addW 1 x1 (fun x38 w =>
 load1W x38 (fun x39 w =>
 binIntW .lss x39 (Value.int .i64 0) (fun x40 w =>
 gW x40 false (fun K w => addW 1 x1 K w) (fun x41 w =>
 gW x40 false (fun K w => load1W x41 K w) (fun x42 w =>
 gW x40 false (fun K w => K a0 w) (fun x43 w =>
 gW x40 false (fun K w => nilW x43 K w) (fun x44 w =>
 gW x40 false (fun K w => addW 8 x44 K w) (fun x45 w =>
 gW x40 false (fun K w => load1W x45 K w) (fun x46 w =>
 gW x40 false (fun K w => lenW x46 K w) (fun x47 w =>
 gW x40 false (fun K w => binIntW .geq x42 x47 K w) (fun x48 w =>
 pickW x40 (Value.bool true) x48 (fun x49 w =>
 joinW0 (fun  w =>
 j9  w) (fun j10 w =>
 condP x49 (fun w => addW 5 x4 (fun x50 w =>
 storeW 1 x50 (Value.int .i64 2) (fun _ w =>
 j10  w) w) w) (fun w => addW 0 x1 (fun x52 w =>
 load1W x52 (fun x53 w =>
 binIntW .eql x53 (Value.int .i64 8) (fun x54 w =>
 joinW0 (fun  w =>
 j10  w) (fun j11 w =>
 condP x54 (fun w => drewW (fun w => nilW a0 (fun x55 w =>
 addW 8 x55 (fun x56 w =>
 load1W x56 (fun x57 w =>
 addW 1 x1 (fun x58 w =>
 load1W x58 (fun x59 w =>
 idxW 1 x57 x59 (fun x60 w =>
 load1W x60 (fun x61 w =>
 addW 0 x4 (fun x62 w =>
 storeW 1 x62 x61 (fun _ w =>
 andP (fun w => andP (fun w => trueP w) (fun w => andP (fun w => trueP w) (fun w => andP (fun w => trueP w) (fun w => trueP w) w) w) w) (fun w =>
 j11  w) w) w) w) w) w) w) w) w) w) w) w) (fun w => drewW (fun w => nilW a0 (fun x64 w =>
 addW 8 x64 (fun x65 w =>
 load1W x65 (fun x66 w =>
 addW 1 x1 (fun x67 w =>
 load1W x67 (fun x68 w =>
 addW 3 x1 (fun x69 w =>
 load1W x69 (fun x70 w =>
 idxW 1 x66 x68 (fun x71 w =>
 storeW 1 x71 x70 (fun _ w =>
 andP (fun w => andP (fun w => trueP w) (fun w => andP (fun w => trueP w) (fun w => andP (fun w => trueP w) (fun w => trueP w) w) w) w) (fun w =>
 j11  w) w) w) w) w) w) w) w) w) w) w) w) w) w) w) w) w) w) w) w) w) w) w) w) w) w) w) w) w) w) w) w) (fun w => addW 5 x4 (fun x73 w =>
 storeW 1 x73 (Value.int .i64 1) (fun _ w =>
 j9  w) w) w) w) w) (fun j8 w =>
 condP x36 (fun w => j8 x36 w) (fun w => binIntW .eql x7 (Value.int .i64 9) (fun x75 w =>
 j8 x75 w) w) w) w) w) w) w) (fun j6 w =>
 condP x31 (fun w => j6 x31 w) (fun w => binIntW .eql x7 (Value.int .i64 7) (fun x76 w =>
 j6 x76 w) w) w) w) w) w) w) (fun j4 w =>
 condP x26 (fun w => j4 x26 w) (fun w => binIntW .eql x7 (Value.int .i64 4) (fun x77 w =>
 joinW1 (fun x78 w =>
 j4 x78 w) (fun j12 w =>
 condP x77 (fun w => j12 x77 w) (fun w => binIntW .eql x7 (Value.int .i64 5) (fun x79 w =>
 j12 x79 w) w) w) w) w) w) w) w) w) w) (fun j1 w =>
 condP x8 (fun w => j1 x8 w) (fun w => binIntW .eql x7 (Value.int .i64 2) (fun x80 w =>
 j1 x80 w) w) w) w) w) w) w) w) w) w) w) w

/-- writes_Writes_find -/
def S_writes_Writes_find (a0 a1 : Value) (K : KV) : World → Prop := fun w =>
 boxW a1 (fun x1 w =>
 nilW a0 (fun x2 w =>
 addW 1 x2 (fun x3 w =>
 load1W x3 (fun x4 w =>
 CP Try.prog Fn.slices_IndexFunc_api_Cell_api_Cell [x4, (Value.func (.func Fn.writes_Writes_find_1) #[] #[x1])] (fun x5 w =>
 K x5 w) w) w) w) w) w

/-- slices_Backward_levels_level_levels_level_1 -/
def S_slices_Backward_levels_level_levels_level_1 (a0 a1 : Value) (K : KV) : World → Prop := fun w =>
 load1W a1 (fun x1 w =>
 lenW x1 (fun x2 w =>
 binIntW .sub x2 (Value.int .i64 1) (fun x3 w =>
 loopW1 x3 (fun J1 x4 w =>
 binIntW .geq x4 (Value.int .i64 0) (fun x5 w =>
 condP x5 (fun w => load1W a1 (fun x6 w =>
 idxW 1 x6 x4 (fun x7 w =>
 load1W x7 (fun x8 w =>
 dynW Try.prog a0 [x4, x8] (fun x9 w =>
 notW x9 (fun x10 w =>
 condP x10 (fun w => K (Value.tuple #[]) w) (fun w => binIntW .sub x4 (Value.int .i64 1) (fun x11 w =>
 J1 x11 w) w) w) w) w) w) w) w) (fun w => K (Value.tuple #[]) w) w) w) w) w) w) w

/-- slices_Clone_api_Cell_api_Cell -/
def S_slices_Clone_api_Cell_api_Cell (a0 : Value) (K : KV) : World → Prop := fun w =>
 eqNilSliceW .eql a0 (Value.slice none 0 0) (fun x1 w =>
 condP x1 (fun w => K (Value.slice none 0 0) w) (fun w => buildSliceW [(Value.int .i64 0), (Value.int .u64 0)] 0 [] (fun x2 w =>
 appendW 2 16 x2 a0 (fun x3 w =>
 K x3 w) w) w) w) w

/-- ref7_Put -/
def S_ref7_Put (a0 a1 a2 : Value) (K : KV) : World → Prop := fun w =>
 appendW 2 16 (Value.slice none 0 0) a0 (fun x1 w =>
 CP Try.prog Fn.ref7_Place [x1, a1] (fun x2 w =>
 binIntW .geq x2 (Value.int .i64 0) (fun x3 w =>
 condP x3 (fun w => idxW 2 x1 x2 (fun x4 w =>
 addW 1 x4 (fun x5 w =>
 storeW 1 x5 a2 (fun _ w =>
 K x1 w) w) w) w) (fun w => buildW [(Value.int .i64 0), (Value.int .u64 0)] [(0, 1, a1), (1, 1, a2)] (fun x7 w =>
 buildSliceW [(Value.int .i64 0), (Value.int .u64 0)] 1 [(0, 2, x7)] (fun x8 w =>
 appendW 2 16 x1 x8 (fun x9 w =>
 K x9 w) w) w) w) w) w) w) w

/-- ref7_Levels_Copy -/
def S_ref7_Levels_Copy (a0 : Value) (K : KV) : World → Prop := fun w =>
 nilW a0 (fun x1 w =>
 addW 0 x1 (fun x2 w =>
 load1W x2 (fun x3 w =>
 buildW [(Value.int .i64 0), (Value.slice none 0 0)] [(0, 1, x3)] (fun x4 w =>
 boxW x4 (fun x5 w =>
 loopW1 (Value.int .i64 0) (fun J1 x6 w =>
 nilW a0 (fun x7 w =>
 addW 1 x7 (fun x8 w =>
 load1W x8 (fun x9 w =>
 lenW x9 (fun x10 w =>
 binIntW .lss x6 x10 (fun x11 w =>
 condP x11 (fun w => drewW (fun w => nilW x5 (fun x12 w =>
 addW 1 x12 (fun x13 w =>
 load1W x13 (fun x14 w =>
 nilW a0 (fun x15 w =>
 addW 1 x15 (fun x16 w =>
 load1W x16 (fun x17 w =>
 idxW 2 x17 x6 (fun x18 w =>
 addW 0 x18 (fun x19 w =>
 load1W x19 (fun x20 w =>
 nilW a0 (fun x21 w =>
 addW 1 x21 (fun x22 w =>
 load1W x22 (fun x23 w =>
 idxW 2 x23 x6 (fun x24 w =>
 addW 1 x24 (fun x25 w =>
 load1W x25 (fun x26 w =>
 appendW 2 16 (Value.slice none 0 0) x20 (fun x27 w =>
 andP (fun w => andP (fun w => load1W x25 (fun v w => eqP v x26 w) w) (fun w => andP (fun w => load1W x22 (fun v w => eqP v x23 w) w) (fun w => andP (fun w => trueP w) (fun w => andP (fun w => trueP w) (fun w => andP (fun w => load1W x13 (fun v w => eqP v x14 w) w) (fun w => trueP w) w) w) w) w) w) (fun w =>
 appendW 1 8 (Value.slice none 0 0) x26 (fun x28 w =>
 andP (fun w => andP (fun w => trueP w) (fun w => andP (fun w => trueP w) (fun w => andP (fun w => load1W x13 (fun v w => eqP v x14 w) w) (fun w => trueP w) w) w) w) (fun w =>
 buildW [(Value.slice none 0 0), (Value.slice none 0 0)] [(0, 1, x27), (1, 1, x28)] (fun x29 w =>
 buildSliceW [(Value.slice none 0 0), (Value.slice none 0 0)] 1 [(0, 2, x29)] (fun x30 w =>
 andP (fun w => andP (fun w => load1W x13 (fun v w => eqP v x14 w) w) (fun w => trueP w) w) (fun w =>
 appendW 2 48 x14 x30 (fun x31 w =>
 andP (fun w => andP (fun w => trueP w) (fun w => trueP w) w) (fun w =>
 nilW x5 (fun x32 w =>
 addW 1 x32 (fun x33 w =>
 storeW 1 x33 x31 (fun _ w =>
 andP (fun w => trueP w) (fun w =>
 binIntW .add x6 (Value.int .i64 1) (fun x35 w =>
 J1 x35 w) w) w) w) w) w) w) w) w) w) w) w) w) w) w) w) w) w) w) w) w) w) w) w) w) w) w) w) w) w) w) (fun w => K x5 w) w) w) w) w) w) w) w) w) w) w) w) w

/-- ref7_Place -/
def S_ref7_Place (a0 a1 : Value) (K : KV) : World → Prop := fun w =>
 loopW1 (Value.int .i64 0) (fun J1 x1 w =>
 lenW a0 (fun x2 w =>
 binIntW .lss x1 x2 (fun x3 w =>
 condP x3 (fun w => idxW 2 a0 x1 (fun x4 w =>
 addW 0 x4 (fun x5 w =>
 load1W x5 (fun x6 w =>
 binIntW .eql x6 a1 (fun x7 w =>
 condP x7 (fun w => K x1 w) (fun w => binIntW .add x1 (Value.int .i64 1) (fun x8 w =>
 J1 x8 w) w) w) w) w) w) w) (fun w => K (Value.int .i64 (-1)) w) w) w) w) w

/-- stripe_near -/
def S_stripe_near (a0 a1 : Value) (K : KV) : World → Prop := fun w =>
 minW a0 [a1] (fun x1 w =>
 maxW (Value.int .i64 1) [x1] (fun x2 w =>
 K x2 w) w) w

/-- heap_Heap_Load -/
def S_heap_Heap_Load (a0 a1 : Value) (K : KV) : World → Prop := fun w =>
 CP Try.prog Fn.heap_Heap_is [a0, a1] (fun x1 w =>
 notW x1 (fun x2 w =>
 condP x2 (fun w => K (Value.tuple #[(Value.int .u64 0), (Value.int .i64 2)]) w) (fun w => nilW a0 (fun x3 w =>
 addW 0 x3 (fun x4 w =>
 load1W x4 (fun x5 w =>
 idxW 1 x5 a1 (fun x6 w =>
 load1W x6 (fun x7 w =>
 K (Value.tuple #[x7, (Value.int .i64 0)]) w) w) w) w) w) w) w) w) w

/-- heap_Heap_Store -/
def S_heap_Heap_Store (a0 a1 a2 : Value) (K : KV) : World → Prop := fun w =>
 CP Try.prog Fn.heap_Heap_is [a0, a1] (fun x1 w =>
 notW x1 (fun x2 w =>
 condP x2 (fun w => K (Value.int .i64 2) w) (fun w => nilW a0 (fun x3 w =>
 addW 0 x3 (fun x4 w =>
 load1W x4 (fun x5 w =>
 idxW 1 x5 a1 (fun x6 w =>
 storeW 1 x6 a2 (fun _ w =>
 K (Value.int .i64 0) w) w) w) w) w) w) w) w) w

/-- stripe_Table_Load -/
def S_stripe_Table_Load (a0 a1 : Value) (K : KV) : World → Prop := fun w =>
 newW #[(Value.int .u64 0), (Value.bool false), (Value.int .i64 0)] (fun x1 w =>
 CP Try.prog Fn.stripe_Table_is [a0, a1] (fun x2 w =>
 notW x2 (fun x3 w =>
 condP x3 (fun w => buildW [(Value.int .u64 0), (Value.bool false), (Value.int .i64 0)] [] (fun x4 w =>
 storeW 3 x1 x4 (fun _ w =>
 loadNW 3 x1 (fun x6 w =>
 K (Value.tuple #[x6, (Value.int .i64 2)]) w) w) w) w) (fun w => nilW a0 (fun x7 w =>
 addW 0 x7 (fun x8 w =>
 load1W x8 (fun x9 w =>
 idxW 3 x9 a1 (fun x10 w =>
 loadNW 3 x10 (fun x11 w =>
 storeW 3 x1 x11 (fun _ w =>
 loadNW 3 x1 (fun x13 w =>
 K (Value.tuple #[x13, (Value.int .i64 0)]) w) w) w) w) w) w) w) w) w) w) w) w

/-- stripe_Table_Cas -/
def S_stripe_Table_Cas (a0 a1 a2 a3 : Value) (K : KV) : World → Prop := fun w =>
 boxW a2 (fun x1 w =>
 boxW a3 (fun x2 w =>
 loadNW 3 x2 (fun x3 w =>
 CP Try.prog Fn.stripe_Table_may [a0, a1, x3] (fun x4 w =>
 binIntW .neq x4 (Value.int .i64 0) (fun x5 w =>
 condP x5 (fun w => K (Value.tuple #[(Value.bool false), x4]) w) (fun w => drewW (fun w => nilW a0 (fun x6 w =>
 addW 0 x6 (fun x7 w =>
 load1W x7 (fun x8 w =>
 idxW 3 x8 a1 (fun x9 w =>
 loadNW 3 x9 (fun x10 w =>
 loadNW 3 x1 (fun x11 w =>
 eqAggW [.i .u64, .b, .i .i64] .neq x10 x11 (fun x12 w =>
 condP x12 (fun w => K (Value.tuple #[(Value.bool false), (Value.int .i64 0)]) w) (fun w => drewW (fun w => nilW a0 (fun x13 w =>
 addW 0 x13 (fun x14 w =>
 load1W x14 (fun x15 w =>
 loadNW 3 x2 (fun x16 w =>
 idxW 3 x15 a1 (fun x17 w =>
 storeW 3 x17 x16 (fun _ w =>
 andP (fun w => andP (fun w => trueP w) (fun w => andP (fun w => trueP w) (fun w => trueP w) w) w) (fun w =>
 K (Value.tuple #[(Value.bool true), (Value.int .i64 0)]) w) w) w) w) w) w) w) w) w) w) w) w) w) w) w) w) w) w) w) w) w) w) w) w

/-- stripe_Table_Store -/
def S_stripe_Table_Store (a0 a1 a2 : Value) (K : KV) : World → Prop := fun w =>
 boxW a2 (fun x1 w =>
 loadNW 3 x1 (fun x2 w =>
 CP Try.prog Fn.stripe_Table_may [a0, a1, x2] (fun x3 w =>
 binIntW .eql x3 (Value.int .i64 0) (fun x4 w =>
 joinW0 (fun  w =>
 K x3 w) (fun j1 w =>
 condP x4 (fun w => drewW (fun w => nilW a0 (fun x5 w =>
 addW 0 x5 (fun x6 w =>
 load1W x6 (fun x7 w =>
 loadNW 3 x1 (fun x8 w =>
 idxW 3 x7 a1 (fun x9 w =>
 storeW 3 x9 x8 (fun _ w =>
 andP (fun w => andP (fun w => trueP w) (fun w => andP (fun w => trueP w) (fun w => trueP w) w) w) (fun w =>
 j1  w) w) w) w) w) w) w) w) w) (fun w => j1  w) w) w) w) w) w) w

/-- clock_Clock_Cas -/
def S_clock_Clock_Cas (a0 a1 a2 : Value) (K : KV) : World → Prop := fun w =>
 binIntW .leq a2 a1 (fun x1 w =>
 condP x1 (fun w => K (Value.tuple #[(Value.bool false), (Value.int .i64 1)]) w) (fun w => binIntW .geq a2 (Value.int .u64 4611686018427387904) (fun x2 w =>
 condP x2 (fun w => K (Value.tuple #[(Value.bool false), (Value.int .i64 7)]) w) (fun w => nilW a0 (fun x3 w =>
 addW 0 x3 (fun x4 w =>
 load1W x4 (fun x5 w =>
 binIntW .neq x5 a1 (fun x6 w =>
 condP x6 (fun w => K (Value.tuple #[(Value.bool false), (Value.int .i64 0)]) w) (fun w => nilW a0 (fun x7 w =>
 addW 0 x7 (fun x8 w =>
 storeW 1 x8 a2 (fun _ w =>
 K (Value.tuple #[(Value.bool true), (Value.int .i64 0)]) w) w) w) w) w) w) w) w) w) w) w) w) w

/-- epoch_Slots_Load -/
def S_epoch_Slots_Load (a0 a1 : Value) (K : KV) : World → Prop := fun w =>
 CP Try.prog Fn.epoch_Slots_is [a0, a1] (fun x1 w =>
 notW x1 (fun x2 w =>
 condP x2 (fun w => K (Value.tuple #[(Value.int .u64 0), (Value.int .i64 2)]) w) (fun w => nilW a0 (fun x3 w =>
 addW 0 x3 (fun x4 w =>
 load1W x4 (fun x5 w =>
 idxW 1 x5 a1 (fun x6 w =>
 load1W x6 (fun x7 w =>
 K (Value.tuple #[x7, (Value.int .i64 0)]) w) w) w) w) w) w) w) w) w

/-- epoch_Slots_Store -/
def S_epoch_Slots_Store (a0 a1 a2 : Value) (K : KV) : World → Prop := fun w =>
 CP Try.prog Fn.epoch_Slots_is [a0, a1] (fun x1 w =>
 notW x1 (fun x2 w =>
 condP x2 (fun w => K (Value.int .i64 2) w) (fun w => nilW a0 (fun x3 w =>
 addW 0 x3 (fun x4 w =>
 load1W x4 (fun x5 w =>
 idxW 1 x5 a1 (fun x6 w =>
 storeW 1 x6 a2 (fun _ w =>
 K (Value.int .i64 0) w) w) w) w) w) w) w) w) w

/-- stripe_Of -/
def S_stripe_Of (a0 a1 a2 : Value) (K : KV) : World → Prop := fun w =>
 binIntW .lss a0 (Value.int .i64 0) (fun x1 w =>
 condP x1 (fun w => K (Value.int .i64 (-1)) w) (fun w => drewW (fun w => CP Try.prog Fn.stripe_near [a2, (Value.int .i64 16)] (fun x2 w =>
 andP (fun w => trueP w) (fun w =>
 binIntW .quo a0 x2 (fun x3 w =>
 CP Try.prog Fn.stripe_near [a1, (Value.int .i64 16)] (fun x4 w =>
 andP (fun w => trueP w) (fun w =>
 binIntW .rem x3 x4 (fun x5 w =>
 K x5 w) w) w) w) w) w) w) w) w) w

/-- slices_Clone_uint64_uint64 -/
def S_slices_Clone_uint64_uint64 (a0 : Value) (K : KV) : World → Prop := fun w =>
 eqNilSliceW .eql a0 (Value.slice none 0 0) (fun x1 w =>
 condP x1 (fun w => K (Value.slice none 0 0) w) (fun w => buildSliceW [(Value.int .u64 0)] 0 [] (fun x2 w =>
 appendW 1 8 x2 a0 (fun x3 w =>
 K x3 w) w) w) w) w

/-- slices_Clone_api_Lock_api_Lock -/
def S_slices_Clone_api_Lock_api_Lock (a0 : Value) (K : KV) : World → Prop := fun w =>
 eqNilSliceW .eql a0 (Value.slice none 0 0) (fun x1 w =>
 condP x1 (fun w => K (Value.slice none 0 0) w) (fun w => buildSliceW [(Value.int .u64 0), (Value.bool false), (Value.int .i64 0)] 0 [] (fun x2 w =>
 appendW 3 24 x2 a0 (fun x3 w =>
 K x3 w) w) w) w) w

/-- ref1_Mem_word -/
def S_ref1_Mem_word (a0 a1 : Value) (K : KV) : World → Prop := fun w =>
 boxW a1 (fun x1 w =>
 newW #[(Value.int .u64 0), (Value.int .u64 0), (Value.bool false), (Value.int .i64 0), (Value.bool false), (Value.int .i64 0)] (fun x2 w =>
 drewW (fun w => addW 1 x1 (fun x3 w =>
 load1W x3 (fun x4 w =>
 binIntW .lss x4 (Value.int .i64 1) (fun x5 w =>
 gW x5 false (fun K w => addW 1 x1 K w) (fun x6 w =>
 gW x5 false (fun K w => load1W x6 K w) (fun x7 w =>
 gW x5 false (fun K w => K a0 w) (fun x8 w =>
 gW x5 false (fun K w => nilW x8 K w) (fun x9 w =>
 gW x5 false (fun K w => addW 5 x9 K w) (fun x10 w =>
 gW x5 false (fun K w => load1W x10 K w) (fun x11 w =>
 gW x5 false (fun K w => lenW x11 K w) (fun x12 w =>
 gW x5 false (fun K w => binIntW .geq x7 x12 K w) (fun x13 w =>
 pickW x5 (Value.bool true) x13 (fun x14 w =>
 condP x14 (fun w => buildW [(Value.int .u64 0), (Value.int .u64 0), (Value.bool false), (Value.int .i64 0), (Value.bool false), (Value.int .i64 0)] [(5, 1, (Value.int .i64 2))] (fun x15 w =>
 storeW 6 x2 x15 (fun _ w =>
 loadNW 6 x2 (fun x17 w =>
 K x17 w) w) w) w) (fun w => addW 0 x1 (fun x18 w =>
 load1W x18 (fun x19 w =>
 binIntW .eql x19 (Value.int .i64 1) (fun x20 w =>
 condP x20 (fun w => drewW (fun w => nilW a0 (fun x21 w =>
 addW 5 x21 (fun x22 w =>
 load1W x22 (fun x23 w =>
 addW 1 x1 (fun x24 w =>
 load1W x24 (fun x25 w =>
 idxW 1 x23 x25 (fun x26 w =>
 load1W x26 (fun x27 w =>
 buildW [(Value.int .u64 0), (Value.int .u64 0), (Value.bool false), (Value.int .i64 0), (Value.bool false), (Value.int .i64 0)] [(0, 1, x27)] (fun x28 w =>
 storeW 6 x2 x28 (fun _ w =>
 andP (fun w => andP (fun w => trueP w) (fun w => andP (fun w => trueP w) (fun w => andP (fun w => trueP w) (fun w => trueP w) w) w) w) (fun w =>
 loadNW 6 x2 (fun x30 w =>
 K x30 w) w) w) w) w) w) w) w) w) w) w) w) w) (fun w => drewW (fun w => nilW a0 (fun x31 w =>
 addW 5 x31 (fun x32 w =>
 load1W x32 (fun x33 w =>
 addW 1 x1 (fun x34 w =>
 load1W x34 (fun x35 w =>
 addW 3 x1 (fun x36 w =>
 load1W x36 (fun x37 w =>
 idxW 1 x33 x35 (fun x38 w =>
 storeW 1 x38 x37 (fun _ w =>
 andP (fun w => andP (fun w => trueP w) (fun w => andP (fun w => trueP w) (fun w => andP (fun w => trueP w) (fun w => trueP w) w) w) w) (fun w =>
 buildW [(Value.int .u64 0), (Value.int .u64 0), (Value.bool false), (Value.int .i64 0), (Value.bool false), (Value.int .i64 0)] [] (fun x40 w =>
 storeW 6 x2 x40 (fun _ w =>
 loadNW 6 x2 (fun x42 w =>
 K x42 w) w) w) w) w) w) w) w) w) w) w) w) w) w) w) w) w) w) w) w) w) w) w) w) w) w) w) w) w) w) w) w) w) w) w

/-- ref1_Mem_lock -/
def S_ref1_Mem_lock (a0 a1 : Value) (K : KV) : World → Prop := fun w =>
 boxW a1 (fun x1 w =>
 newW #[(Value.int .u64 0), (Value.int .u64 0), (Value.bool false), (Value.int .i64 0), (Value.bool false), (Value.int .i64 0)] (fun x2 w =>
 drewW (fun w => addW 1 x1 (fun x3 w =>
 load1W x3 (fun x4 w =>
 binIntW .lss x4 (Value.int .i64 0) (fun x5 w =>
 gW x5 false (fun K w => addW 1 x1 K w) (fun x6 w =>
 gW x5 false (fun K w => load1W x6 K w) (fun x7 w =>
 gW x5 false (fun K w => K a0 w) (fun x8 w =>
 gW x5 false (fun K w => nilW x8 K w) (fun x9 w =>
 gW x5 false (fun K w => addW 6 x9 K w) (fun x10 w =>
 gW x5 false (fun K w => load1W x10 K w) (fun x11 w =>
 gW x5 false (fun K w => lenW x11 K w) (fun x12 w =>
 gW x5 false (fun K w => binIntW .geq x7 x12 K w) (fun x13 w =>
 pickW x5 (Value.bool true) x13 (fun x14 w =>
 condP x14 (fun w => buildW [(Value.int .u64 0), (Value.int .u64 0), (Value.bool false), (Value.int .i64 0), (Value.bool false), (Value.int .i64 0)] [(5, 1, (Value.int .i64 2))] (fun x15 w =>
 storeW 6 x2 x15 (fun _ w =>
 loadNW 6 x2 (fun x17 w =>
 K x17 w) w) w) w) (fun w => addW 0 x1 (fun x18 w =>
 load1W x18 (fun x19 w =>
 binIntW .eql x19 (Value.int .i64 3) (fun x20 w =>
 condP x20 (fun w => drewW (fun w => nilW a0 (fun x21 w =>
 addW 6 x21 (fun x22 w =>
 load1W x22 (fun x23 w =>
 addW 1 x1 (fun x24 w =>
 load1W x24 (fun x25 w =>
 idxW 3 x23 x25 (fun x26 w =>
 loadNW 3 x26 (fun x27 w =>
 buildW [(Value.int .u64 0), (Value.int .u64 0), (Value.bool false), (Value.int .i64 0), (Value.bool false), (Value.int .i64 0)] [(1, 3, x27)] (fun x28 w =>
 storeW 6 x2 x28 (fun _ w =>
 andP (fun w => andP (fun w => trueP w) (fun w => andP (fun w => trueP w) (fun w => andP (fun w => trueP w) (fun w => trueP w) w) w) w) (fun w =>
 loadNW 6 x2 (fun x30 w =>
 K x30 w) w) w) w) w) w) w) w) w) w) w) w) w) (fun w => addW 7 x1 (fun x31 w =>
 loadNW 3 x31 (fun x32 w =>
 CP Try.prog Fn.ref1_IsLock [x32] (fun x33 w =>
 notW x33 (fun x34 w =>
 condP x34 (fun w => buildW [(Value.int .u64 0), (Value.int .u64 0), (Value.bool false), (Value.int .i64 0), (Value.bool false), (Value.int .i64 0)] [(5, 1, (Value.int .i64 1))] (fun x35 w =>
 storeW 6 x2 x35 (fun _ w =>
 loadNW 6 x2 (fun x37 w =>
 K x37 w) w) w) w) (fun w => addW 0 x1 (fun x38 w =>
 load1W x38 (fun x39 w =>
 binIntW .eql x39 (Value.int .i64 5) (fun x40 w =>
 condP x40 (fun w => drewW (fun w => nilW a0 (fun x41 w =>
 addW 6 x41 (fun x42 w =>
 load1W x42 (fun x43 w =>
 addW 1 x1 (fun x44 w =>
 load1W x44 (fun x45 w =>
 addW 7 x1 (fun x46 w =>
 loadNW 3 x46 (fun x47 w =>
 idxW 3 x43 x45 (fun x48 w =>
 storeW 3 x48 x47 (fun _ w =>
 andP (fun w => andP (fun w => trueP w) (fun w => andP (fun w => trueP w) (fun w => andP (fun w => trueP w) (fun w => trueP w) w) w) w) (fun w =>
 buildW [(Value.int .u64 0), (Value.int .u64 0), (Value.bool false), (Value.int .i64 0), (Value.bool false), (Value.int .i64 0)] [] (fun x50 w =>
 storeW 6 x2 x50 (fun _ w =>
 loadNW 6 x2 (fun x52 w =>
 K x52 w) w) w) w) w) w) w) w) w) w) w) w) w) w) w) (fun w => drewW (fun w => nilW a0 (fun x53 w =>
 addW 6 x53 (fun x54 w =>
 load1W x54 (fun x55 w =>
 addW 1 x1 (fun x56 w =>
 load1W x56 (fun x57 w =>
 idxW 3 x55 x57 (fun x58 w =>
 loadNW 3 x58 (fun x59 w =>
 addW 4 x1 (fun x60 w =>
 loadNW 3 x60 (fun x61 w =>
 eqAggW [.i .u64, .b, .i .i64] .neq x59 x61 (fun x62 w =>
 condP x62 (fun w => buildW [(Value.int .u64 0), (Value.int .u64 0), (Value.bool false), (Value.int .i64 0), (Value.bool false), (Value.int .i64 0)] [] (fun x63 w =>
 storeW 6 x2 x63 (fun _ w =>
 loadNW 6 x2 (fun x65 w =>
 K x65 w) w) w) w) (fun w => drewW (fun w => nilW a0 (fun x66 w =>
 addW 6 x66 (fun x67 w =>
 load1W x67 (fun x68 w =>
 addW 1 x1 (fun x69 w =>
 load1W x69 (fun x70 w =>
 addW 7 x1 (fun x71 w =>
 loadNW 3 x71 (fun x72 w =>
 idxW 3 x68 x70 (fun x73 w =>
 storeW 3 x73 x72 (fun _ w =>
 andP (fun w => andP (fun w => trueP w) (fun w => andP (fun w => trueP w) (fun w => andP (fun w => trueP w) (fun w => trueP w) w) w) w) (fun w =>
 buildW [(Value.int .u64 0), (Value.int .u64 0), (Value.bool false), (Value.int .i64 0), (Value.bool false), (Value.int .i64 0)] [(4, 1, (Value.bool true))] (fun x75 w =>
 storeW 6 x2 x75 (fun _ w =>
 loadNW 6 x2 (fun x77 w =>
 K x77 w) w) w) w) w) w) w) w) w) w) w) w) w) w) w) w) w) w) w) w) w) w) w) w) w) w) w) w) w) w) w) w) w) w) w) w) w) w) w) w) w) w) w) w) w) w) w) w) w) w) w) w) w) w) w) w

/-- ref1_Mem_clock -/
def S_ref1_Mem_clock (a0 a1 : Value) (K : KV) : World → Prop := fun w =>
 boxW a1 (fun x1 w =>
 newW #[(Value.int .u64 0), (Value.int .u64 0), (Value.bool false), (Value.int .i64 0), (Value.bool false), (Value.int .i64 0)] (fun x2 w =>
 addW 0 x1 (fun x3 w =>
 load1W x3 (fun x4 w =>
 binIntW .eql x4 (Value.int .i64 6) (fun x5 w =>
 condP x5 (fun w => nilW a0 (fun x6 w =>
 addW 7 x6 (fun x7 w =>
 load1W x7 (fun x8 w =>
 buildW [(Value.int .u64 0), (Value.int .u64 0), (Value.bool false), (Value.int .i64 0), (Value.bool false), (Value.int .i64 0)] [(0, 1, x8)] (fun x9 w =>
 storeW 6 x2 x9 (fun _ w =>
 loadNW 6 x2 (fun x11 w =>
 K x11 w) w) w) w) w) w) w) (fun w => addW 3 x1 (fun x12 w =>
 load1W x12 (fun x13 w =>
 addW 2 x1 (fun x14 w =>
 load1W x14 (fun x15 w =>
 binIntW .leq x13 x15 (fun x16 w =>
 condP x16 (fun w => buildW [(Value.int .u64 0), (Value.int .u64 0), (Value.bool false), (Value.int .i64 0), (Value.bool false), (Value.int .i64 0)] [(5, 1, (Value.int .i64 1))] (fun x17 w =>
 storeW 6 x2 x17 (fun _ w =>
 loadNW 6 x2 (fun x19 w =>
 K x19 w) w) w) w) (fun w => addW 3 x1 (fun x20 w =>
 load1W x20 (fun x21 w =>
 binIntW .geq x21 (Value.int .u64 4611686018427387904) (fun x22 w =>
 condP x22 (fun w => buildW [(Value.int .u64 0), (Value.int .u64 0), (Value.bool false), (Value.int .i64 0), (Value.bool false), (Value.int .i64 0)] [(5, 1, (Value.int .i64 7))] (fun x23 w =>
 storeW 6 x2 x23 (fun _ w =>
 loadNW 6 x2 (fun x25 w =>
 K x25 w) w) w) w) (fun w => drewW (fun w => nilW a0 (fun x26 w =>
 addW 7 x26 (fun x27 w =>
 load1W x27 (fun x28 w =>
 addW 2 x1 (fun x29 w =>
 load1W x29 (fun x30 w =>
 binIntW .neq x28 x30 (fun x31 w =>
 condP x31 (fun w => buildW [(Value.int .u64 0), (Value.int .u64 0), (Value.bool false), (Value.int .i64 0), (Value.bool false), (Value.int .i64 0)] [] (fun x32 w =>
 storeW 6 x2 x32 (fun _ w =>
 loadNW 6 x2 (fun x34 w =>
 K x34 w) w) w) w) (fun w => addW 3 x1 (fun x35 w =>
 load1W x35 (fun x36 w =>
 nilW a0 (fun x37 w =>
 addW 7 x37 (fun x38 w =>
 storeW 1 x38 x36 (fun _ w =>
 buildW [(Value.int .u64 0), (Value.int .u64 0), (Value.bool false), (Value.int .i64 0), (Value.bool false), (Value.int .i64 0)] [(4, 1, (Value.bool true))] (fun x40 w =>
 storeW 6 x2 x40 (fun _ w =>
 loadNW 6 x2 (fun x42 w =>
 K x42 w) w) w) w) w) w) w) w) w) w) w) w) w) w) w) w) w) w) w) w) w) w) w) w) w) w) w) w) w) w) w) w) w

/-- slices_IndexFunc_api_Cell_api_Cell -/
def S_slices_IndexFunc_api_Cell_api_Cell (a0 a1 : Value) (K : KV) : World → Prop := fun w =>
 lenW a0 (fun x1 w =>
 loopW1 (Value.int .i64 0) (fun J1 x2 w =>
 binIntW .lss x2 x1 (fun x3 w =>
 condP x3 (fun w => idxW 2 a0 x2 (fun x4 w =>
 loadNW 2 x4 (fun x5 w =>
 dynW Try.prog a1 [x5] (fun x6 w =>
 condP x6 (fun w => K x2 w) (fun w => binIntW .add x2 (Value.int .i64 1) (fun x7 w =>
 J1 x7 w) w) w) w) w) w) (fun w => K (Value.int .i64 (-1)) w) w) w) w) w

/-- writes_Writes_find_1 -/
def S_writes_Writes_find_1 (a0 a1 : Value) (K : KV) : World → Prop := fun w =>
 boxW a0 (fun x1 w =>
 addW 0 x1 (fun x2 w =>
 load1W x2 (fun x3 w =>
 load1W a1 (fun x4 w =>
 binIntW .eql x3 x4 (fun x5 w =>
 K x5 w) w) w) w) w) w

/-- heap_Heap_is -/
def S_heap_Heap_is (a0 a1 : Value) (K : KV) : World → Prop := fun w =>
 binIntW .geq a1 (Value.int .i64 1) (fun x1 w =>
 gW x1 true (fun K w => K a1 w) (fun x2 w =>
 gW x1 true (fun K w => K a0 w) (fun x3 w =>
 gW x1 true (fun K w => nilW x3 K w) (fun x4 w =>
 gW x1 true (fun K w => addW 0 x4 K w) (fun x5 w =>
 gW x1 true (fun K w => load1W x5 K w) (fun x6 w =>
 gW x1 true (fun K w => lenW x6 K w) (fun x7 w =>
 gW x1 true (fun K w => binIntW .lss x2 x7 K w) (fun x8 w =>
 pickW x1 x8 (Value.bool false) (fun x9 w =>
 K x9 w) w) w) w) w) w) w) w) w) w

/-- stripe_Table_is -/
def S_stripe_Table_is (a0 a1 : Value) (K : KV) : World → Prop := fun w =>
 binIntW .geq a1 (Value.int .i64 0) (fun x1 w =>
 gW x1 true (fun K w => K a1 w) (fun x2 w =>
 gW x1 true (fun K w => K a0 w) (fun x3 w =>
 gW x1 true (fun K w => nilW x3 K w) (fun x4 w =>
 gW x1 true (fun K w => addW 0 x4 K w) (fun x5 w =>
 gW x1 true (fun K w => load1W x5 K w) (fun x6 w =>
 gW x1 true (fun K w => lenW x6 K w) (fun x7 w =>
 gW x1 true (fun K w => binIntW .lss x2 x7 K w) (fun x8 w =>
 pickW x1 x8 (Value.bool false) (fun x9 w =>
 K x9 w) w) w) w) w) w) w) w) w) w

/-- stripe_Table_may -/
def S_stripe_Table_may (a0 a1 a2 : Value) (K : KV) : World → Prop := fun w =>
 boxW a2 (fun x1 w =>
 CP Try.prog Fn.stripe_Table_is [a0, a1] (fun x2 w =>
 notW x2 (fun x3 w =>
 condP x3 (fun w => K (Value.int .i64 2) w) (fun w => loadNW 3 x1 (fun x4 w =>
 CP Try.prog Fn.lock_Is [x4] (fun x5 w =>
 notW x5 (fun x6 w =>
 condP x6 (fun w => K (Value.int .i64 1) w) (fun w => K (Value.int .i64 0) w) w) w) w) w) w) w) w) w

/-- epoch_Slots_is -/
def S_epoch_Slots_is (a0 a1 : Value) (K : KV) : World → Prop := fun w =>
 binIntW .geq a1 (Value.int .i64 0) (fun x1 w =>
 gW x1 true (fun K w => K a1 w) (fun x2 w =>
 gW x1 true (fun K w => K a0 w) (fun x3 w =>
 gW x1 true (fun K w => nilW x3 K w) (fun x4 w =>
 gW x1 true (fun K w => addW 0 x4 K w) (fun x5 w =>
 gW x1 true (fun K w => load1W x5 K w) (fun x6 w =>
 gW x1 true (fun K w => lenW x6 K w) (fun x7 w =>
 gW x1 true (fun K w => binIntW .lss x2 x7 K w) (fun x8 w =>
 pickW x1 x8 (Value.bool false) (fun x9 w =>
 K x9 w) w) w) w) w) w) w) w) w) w

/-- ref1_IsLock -/
def S_ref1_IsLock (a0 : Value) (K : KV) : World → Prop := fun w =>
 boxW a0 (fun x1 w =>
 addW 0 x1 (fun x2 w =>
 load1W x2 (fun x3 w =>
 binIntW .geq x3 (Value.int .u64 4611686018427387904) (fun x4 w =>
 condP x4 (fun w => K (Value.bool false) w) (fun w => addW 1 x1 (fun x5 w =>
 load1W x5 (fun x6 w =>
 condP x6 (fun w => addW 2 x1 (fun x7 w =>
 load1W x7 (fun x8 w =>
 binIntW .geq x8 (Value.int .i64 0) (fun x9 w =>
 gW x9 true (fun K w => addW 2 x1 K w) (fun x10 w =>
 gW x9 true (fun K w => load1W x10 K w) (fun x11 w =>
 gW x9 true (fun K w => binIntW .lss x11 (Value.int .i64 4) K w) (fun x12 w =>
 pickW x9 x12 (Value.bool false) (fun x13 w =>
 K x13 w) w) w) w) w) w) w) w) (fun w => addW 2 x1 (fun x14 w =>
 load1W x14 (fun x15 w =>
 binIntW .eql x15 (Value.int .i64 0) (fun x16 w =>
 K x16 w) w) w) w) w) w) w) w) w) w) w) w

/-- lock_Is -/
def S_lock_Is (a0 : Value) (K : KV) : World → Prop := fun w =>
 boxW a0 (fun x1 w =>
 addW 1 x1 (fun x2 w =>
 load1W x2 (fun x3 w =>
 condP x3 (fun w => addW 0 x1 (fun x4 w =>
 load1W x4 (fun x5 w =>
 binIntW .lss x5 (Value.int .u64 4611686018427387904) (fun x6 w =>
 gW x6 true (fun K w => addW 2 x1 K w) (fun x7 w =>
 gW x6 true (fun K w => load1W x7 K w) (fun x8 w =>
 gW x6 true (fun K w => CP Try.prog Fn.lock_owns [x8] K w) (fun x9 w =>
 pickW x6 x9 (Value.bool false) (fun x10 w =>
 K x10 w) w) w) w) w) w) w) w) (fun w => addW 0 x1 (fun x11 w =>
 load1W x11 (fun x12 w =>
 binIntW .lss x12 (Value.int .u64 4611686018427387904) (fun x13 w =>
 gW x13 true (fun K w => addW 2 x1 K w) (fun x14 w =>
 gW x13 true (fun K w => load1W x14 K w) (fun x15 w =>
 gW x13 true (fun K w => binIntW .eql x15 (Value.int .i64 0) K w) (fun x16 w =>
 pickW x13 x16 (Value.bool false) (fun x17 w =>
 K x17 w) w) w) w) w) w) w) w) w) w) w) w

/-- lock_owns -/
def S_lock_owns (a0 : Value) (K : KV) : World → Prop := fun w =>
 binIntW .geq a0 (Value.int .i64 0) (fun x1 w =>
 gW x1 true (fun K w => K a0 w) (fun x2 w =>
 gW x1 true (fun K w => binIntW .lss x2 (Value.int .i64 4) K w) (fun x3 w =>
 pickW x1 x3 (Value.bool false) (fun x4 w =>
 K x4 w) w) w) w) w

end Go.Proofs.Ytkghefbdhljgiaa.S
