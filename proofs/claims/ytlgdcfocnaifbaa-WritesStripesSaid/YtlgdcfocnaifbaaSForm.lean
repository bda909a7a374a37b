/-
  THE PLAIN FORMS OF THE FUNCTIONS, by a program.
-/
import Derived.Test.YtlgdcfocnaifbaaG
import Derived.Test.YtlgdcfocnaifbaaSIn
import Derived.Test.YtlgdcfocnaifbaaProg
namespace Go.Proofs.Ytlgdcfocnaifbaa.S
open Go Go.Proofs
set_option linter.unusedVariables false
set_option maxRecDepth 100000
abbrev Fn.gosem_cut_init : Nat := 2
abbrev Fn.law10_ViewRuns : Nat := 3
abbrev Fn.law10_ViewStale : Nat := 4
abbrev Fn.law10_ViewReads : Nat := 5
abbrev Fn.law10_ViewPlays : Nat := 6
abbrev Fn.law10_ViewWhole : Nat := 7
abbrev Fn.law8_WritesRuns : Nat := 8
abbrev Fn.law8_WritesStripes : Nat := 9
abbrev Fn.law8_WritesLast : Nat := 10
abbrev Fn.law8_WritesPlays : Nat := 11
abbrev Fn.law8_WritesWhole : Nat := 12
abbrev Fn.view_New : Nat := 13
abbrev Fn.view_View_Read : Nat := 14
abbrev Fn.view_View_Need : Nat := 15
abbrev Fn.view_View_Know : Nat := 16
abbrev Fn.view_View_Write : Nat := 17
abbrev Fn.view_View_Known : Nat := 18
abbrev Fn.view_Whole : Nat := 19
abbrev Fn.view_View_Size : Nat := 20
abbrev Fn.book_Within : Nat := 21
abbrev Fn.ref7_Place : Nat := 22
abbrev Fn.book_Same_api_Cell : Nat := 23
abbrev Fn.view_View_Open : Nat := 24
abbrev Fn.view_View_Drop : Nat := 25
abbrev Fn.view_View_Keep : Nat := 26
abbrev Fn.ref7_NewView : Nat := 27
abbrev Fn.law10_do : Nat := 28
abbrev Fn.law10_same : Nat := 29
abbrev Fn.ref7_Whole : Nat := 30
abbrev Fn.writes_New : Nat := 31
abbrev Fn.writes_Writes_Put : Nat := 32
abbrev Fn.writes_Writes_All : Nat := 33
abbrev Fn.writes_Writes_Get : Nat := 34
abbrev Fn.writes_Stripes : Nat := 35
abbrev Fn.writes_Writes_Len : Nat := 36
abbrev Fn.book_Same_int : Nat := 37
abbrev Fn.ref7_Stripes : Nat := 38
abbrev Fn.book_Clamp : Nat := 39
abbrev Fn.law8_near : Nat := 40
abbrev Fn.law8_take : Nat := 41
abbrev Fn.writes_Writes_Take : Nat := 42
abbrev Fn.levels_New : Nat := 43
abbrev Fn.view_View_is : Nat := 44
abbrev Fn.levels_Levels_Get : Nat := 45
abbrev Fn.levels_Levels_Put : Nat := 46
abbrev Fn.levels_Levels_Open : Nat := 47
abbrev Fn.levels_Levels_Drop : Nat := 48
abbrev Fn.levels_Levels_Keep : Nat := 49
abbrev Fn.ref1_Held : Nat := 50
abbrev Fn.ref7_NewLevels : Nat := 51
abbrev Fn.law10_place : Nat := 52
abbrev Fn.ref7_View_Know : Nat := 53
abbrev Fn.ref7_View_In : Nat := 54
abbrev Fn.ref7_Levels_Put : Nat := 55
abbrev Fn.ref7_Levels_Open : Nat := 56
abbrev Fn.ref7_Levels_Keep : Nat := 57
abbrev Fn.ref7_Levels_Drop : Nat := 58
abbrev Fn.view_View_Free : Nat := 59
abbrev Fn.ref7_Levels_Free : Nat := 60
abbrev Fn.view_View_Take : Nat := 61
abbrev Fn.ref7_View_Take : Nat := 62
abbrev Fn.ref7_View_Read : Nat := 63
abbrev Fn.ref7_Levels_Whole : Nat := 64
abbrev Fn.view_View_Cells : Nat := 65
abbrev Fn.view_View_Frees : Nat := 66
abbrev Fn.view_View_Depth : Nat := 67
abbrev Fn.view_View_Room : Nat := 68
abbrev Fn.ref7_Levels_Room : Nat := 69
abbrev Fn.writes_Writes_find : Nat := 70
abbrev Fn.slices_Clone_api_Cell_api_Cell : Nat := 71
abbrev Fn.stripe_Of : Nat := 72
abbrev Fn.slices_Sort_int_int : Nat := 73
abbrev Fn.slices_Compact_int_int : Nat := 74
abbrev Fn.ref1_Of : Nat := 75
abbrev Fn.ref7_Put : Nat := 76
abbrev Fn.levels_fresh : Nat := 77
abbrev Fn.slices_Backward_levels_level_levels_level : Nat := 78
abbrev Fn.levels_Levels_in : Nat := 79
abbrev Fn.levels_Levels_Room : Nat := 80
abbrev Fn.levels_Levels_Free : Nat := 81
abbrev Fn.levels_Levels_Take : Nat := 82
abbrev Fn.ref7_Levels_Take : Nat := 83
abbrev Fn.ref7_Levels_Get : Nat := 84
abbrev Fn.ref7_Levels_Copy : Nat := 85
abbrev Fn.levels_Levels_Cells : Nat := 86
abbrev Fn.levels_Levels_Frees : Nat := 87
abbrev Fn.levels_Levels_Depth : Nat := 88
abbrev Fn.slices_IndexFunc_api_Cell_api_Cell : Nat := 89
abbrev Fn.writes_Writes_find_1 : Nat := 90
abbrev Fn.stripe_near : Nat := 91
abbrev Fn.slices_pdqsortOrdered_int : Nat := 92
abbrev Fn.math_bits_Len : Nat := 93
abbrev Fn.slices_Backward_levels_level_levels_level_1 : Nat := 94
abbrev Fn.slices_insertionSortOrdered_int : Nat := 95
abbrev Fn.slices_heapSortOrdered_int : Nat := 96
abbrev Fn.slices_breakPatternsOrdered_int : Nat := 97
abbrev Fn.slices_choosePivotOrdered_int : Nat := 98
abbrev Fn.slices_reverseRangeOrdered_int : Nat := 99
abbrev Fn.slices_partialInsertionSortOrdered_int : Nat := 100
abbrev Fn.cmp_Less_int : Nat := 101
abbrev Fn.slices_partitionEqualOrdered_int : Nat := 102
abbrev Fn.slices_partitionOrdered_int : Nat := 103
abbrev Fn.math_bits_Len32 : Nat := 104
abbrev Fn.math_bits_Len64 : Nat := 105
abbrev Fn.slices_siftDownOrdered_int : Nat := 106
abbrev Fn.slices_nextPowerOfTwo : Nat := 107
abbrev Fn.slices_xorshift_Next : Nat := 108
abbrev Fn.slices_medianAdjacentOrdered_int : Nat := 109
abbrev Fn.slices_medianOrdered_int : Nat := 110
abbrev Fn.cmp_isNaN_int : Nat := 111
abbrev Fn.slices_order2Ordered_int : Nat := 112

/-- law10_ViewRuns -/
def S_law10_ViewRuns (K : KV) : World → Prop := fun w =>
 CP Try.prog Fn.view_New [(Value.int .i64 40), (Value.int .i64 9)] (fun x1 w =>
 eqNilW .eql x1 (Value.pointer none) (fun x2 w =>
 condP x2 (fun w => K (Value.bool false) w) (fun w => CP Try.prog Fn.view_View_Read [x1, (Value.int .i64 7)] (fun x3 w =>
 extractW 0 x3 (fun x4 w =>
 extractW 1 x3 (fun x5 w =>
 CP Try.prog Fn.view_View_Need [x1] (fun x6 w =>
 CP Try.prog Fn.view_View_Know [x1, (Value.int .i64 7), (Value.int .u64 5)] (fun x7 w =>
 CP Try.prog Fn.view_View_Read [x1, (Value.int .i64 7)] (fun x8 w =>
 extractW 0 x8 (fun x9 w =>
 extractW 1 x8 (fun x10 w =>
 CP Try.prog Fn.view_View_Write [x1, (Value.int .i64 7), (Value.int .u64 6)] (fun x11 w =>
 CP Try.prog Fn.view_View_Read [x1, (Value.int .i64 7)] (fun x12 w =>
 extractW 0 x12 (fun x13 w =>
 extractW 1 x12 (fun x14 w =>
 CP Try.prog Fn.view_View_Known [x1] (fun x15 w =>
 makeSliceW 8 [(Value.int .u64 0)] (Value.int .i64 40) (Value.int .i64 40) (fun x16 w =>
 CP Try.prog Fn.view_Whole [x16, (Value.int .i64 9)] (fun x17 w =>
 binIntW .eql x5 (Value.int .i64 11) (fun x18 w =>
 gW x18 true (fun K w => K x6 w) (fun x19 w =>
 gW x18 true (fun K w => binIntW .eql x19 (Value.int .i64 7) K w) (fun x20 w =>
 pickW x18 x20 (Value.bool false) (fun x21 w =>
 gW x21 true (fun K w => K x7 w) (fun x22 w =>
 gW x21 true (fun K w => binIntW .eql x22 (Value.int .i64 0) K w) (fun x23 w =>
 pickW x21 x23 (Value.bool false) (fun x24 w =>
 gW x24 true (fun K w => K x9 w) (fun x25 w =>
 gW x24 true (fun K w => binIntW .eql x25 (Value.int .u64 5) K w) (fun x26 w =>
 pickW x24 x26 (Value.bool false) (fun x27 w =>
 gW x27 true (fun K w => K x10 w) (fun x28 w =>
 gW x27 true (fun K w => binIntW .eql x28 (Value.int .i64 0) K w) (fun x29 w =>
 pickW x27 x29 (Value.bool false) (fun x30 w =>
 gW x30 true (fun K w => K x11 w) (fun x31 w =>
 gW x30 true (fun K w => binIntW .eql x31 (Value.int .i64 0) K w) (fun x32 w =>
 pickW x30 x32 (Value.bool false) (fun x33 w =>
 gW x33 true (fun K w => K x13 w) (fun x34 w =>
 gW x33 true (fun K w => binIntW .eql x34 (Value.int .u64 6) K w) (fun x35 w =>
 pickW x33 x35 (Value.bool false) (fun x36 w =>
 gW x36 true (fun K w => K x15 w) (fun x37 w =>
 gW x36 true (fun K w => lenW x37 K w) (fun x38 w =>
 gW x36 true (fun K w => binIntW .eql x38 (Value.int .i64 1) K w) (fun x39 w =>
 pickW x36 x39 (Value.bool false) (fun x40 w =>
 gW x40 true (fun K w => K x15 w) (fun x41 w =>
 gW x40 true (fun K w => idxW 2 x41 (Value.int .i64 0) K w) (fun x42 w =>
 gW x40 true (fun K w => loadNW 2 x42 K w) (fun x43 w =>
 gW x40 true (fun K w => buildW [(Value.int .i64 0), (Value.int .u64 0)] [(0, 1, (Value.int .i64 7)), (1, 1, (Value.int .u64 5))] K w) (fun x44 w =>
 gW x40 true (fun K w => eqAggW [.i .i64, .i .u64] .eql x43 x44 K w) (fun x45 w =>
 pickW x40 x45 (Value.bool false) (fun x46 w =>
 gW x46 true (fun K w => K x1 w) (fun x47 w =>
 gW x46 true (fun K w => CP Try.prog Fn.view_View_Size [x47] K w) (fun x48 w =>
 gW x46 true (fun K w => binIntW .eql x48 (Value.int .i64 40) K w) (fun x49 w =>
 pickW x46 x49 (Value.bool false) (fun x50 w =>
 gW x50 true (fun K w => K x17 w) (fun x51 w =>
 gW x50 true (fun K w => eqNilW .neq x51 (Value.pointer none) K w) (fun x52 w =>
 pickW x50 x52 (Value.bool false) (fun x53 w =>
 gW x53 true (fun K w => K x17 w) (fun x54 w =>
 gW x53 true (fun K w => CP Try.prog Fn.view_View_Known [x54] K w) (fun x55 w =>
 gW x53 true (fun K w => lenW x55 K w) (fun x56 w =>
 gW x53 true (fun K w => binIntW .eql x56 (Value.int .i64 39) K w) (fun x57 w =>
 pickW x53 x57 (Value.bool false) (fun x58 w =>
 K x58 w) w) w) w) w) w) w) w) w) w) w) w) w) w) w) w) w) w) w) w) w) w) w) w) w) w) w) w) w) w) w) w) w) w) w) w) w) w) w) w) w) w) w) w) w) w) w) w) w) w) w) w) w) w) w) w) w) w) w) w

/-- law10_ViewStale -/
def S_law10_ViewStale (a0 a1 a2 : Value) (K : KV) : World → Prop := fun w =>
 CP Try.prog Fn.law10_ViewRuns [] (fun x1 w =>
 notW x1 (fun x2 w =>
 condP x2 (fun w => K (Value.bool false) w) (fun w => CP Try.prog Fn.view_New [(Value.int .i64 256), (Value.int .i64 96)] (fun x3 w =>
 eqNilW .eql x3 (Value.pointer none) (fun x4 w =>
 condP x4 (fun w => K (Value.bool false) w) (fun w => loopW1 (Value.int .i64 0) (fun J1 x5 w =>
 lenW a0 (fun x6 w =>
 binIntW .lss x5 x6 (fun x7 w =>
 gW x7 true (fun K w => K x5 w) (fun x8 w =>
 gW x7 true (fun K w => binIntW .lss x8 (Value.int .i64 40) K w) (fun x9 w =>
 pickW x7 x9 (Value.bool false) (fun x10 w =>
 condP x10 (fun w => idxW 2 a0 x5 (fun x11 w =>
 loadNW 2 x11 (fun x12 w =>
 newW #[(Value.int .i64 0), (Value.int .u64 0)] (fun x13 w =>
 storeW 2 x13 x12 (fun _ w =>
 addW 0 x13 (fun x15 w =>
 load1W x15 (fun x16 w =>
 CP Try.prog Fn.book_Within [x16, (Value.int .i64 1), (Value.int .i64 255)] (fun x17 w =>
 addW 0 x13 (fun x18 w =>
 storeW 1 x18 x17 (fun _ w =>
 addW 0 x13 (fun x20 w =>
 load1W x20 (fun x21 w =>
 addW 1 x13 (fun x22 w =>
 load1W x22 (fun x23 w =>
 CP Try.prog Fn.view_View_Know [x3, x21, x23] (fun x24 w =>
 CP Try.prog Fn.view_View_Known [x3] (fun x25 w =>
 addW 0 x13 (fun x26 w =>
 load1W x26 (fun x27 w =>
 CP Try.prog Fn.ref7_Place [x25, x27] (fun x28 w =>
 drewW (fun w => binIntW .lss x28 (Value.int .i64 0) (fun x29 w =>
 gW x29 false (fun K w => K x24 w) (fun x30 w =>
 gW x29 false (fun K w => binIntW .neq x30 (Value.int .i64 0) K w) (fun x31 w =>
 gW x29 false (fun K w => K x31 w) (fun x32 w =>
 gW x32 true (fun K w => K x24 w) (fun x33 w =>
 gW x32 true (fun K w => binIntW .neq x33 (Value.int .i64 14) K w) (fun x34 w =>
 gW x29 false (fun K w => pickW x32 x34 (Value.bool false) K w) (fun x35 w =>
 pickW x29 (Value.bool true) x35 (fun x36 w =>
 gW x36 false (fun K w => K x24 w) (fun x37 w =>
 gW x36 false (fun K w => binIntW .eql x37 (Value.int .i64 0) K w) (fun x38 w =>
 gW x36 false (fun K w => K x25 w) (fun x39 w =>
 gW x36 false (fun K w => K x28 w) (fun x40 w =>
 gW x36 false (fun K w => idxW 2 x39 x40 K w) (fun x41 w =>
 gW x36 false (fun K w => addW 1 x41 K w) (fun x42 w =>
 gW x36 false (fun K w => load1W x42 K w) (fun x43 w =>
 gW x36 false (fun K w => addW 1 x13 K w) (fun x44 w =>
 gW x36 false (fun K w => load1W x44 K w) (fun x45 w =>
 gW x36 false (fun K w => binIntW .eql x43 x45 K w) (fun x46 w =>
 gW x36 false (fun K w => binBoolW .neq x38 x46 K w) (fun x47 w =>
 pickW x36 (Value.bool true) x47 (fun x48 w =>
 condP x48 (fun w => K (Value.bool false) w) (fun w => drewW (fun w => addW 0 x13 (fun x49 w =>
 load1W x49 (fun x50 w =>
 CP Try.prog Fn.view_View_Write [x3, x50, a2] (fun x51 w =>
 andP (fun w => andP (fun w => trueP w) (fun w => trueP w) w) (fun w =>
 binIntW .neq x51 (Value.int .i64 0) (fun x52 w =>
 gW x52 false (fun K w => K x3 w) (fun x53 w =>
 gW x52 false (fun K w => addW 0 x13 K w) (fun x54 w =>
 gW x52 false (fun K w => load1W x54 K w) (fun x55 w =>
 gW x52 false (fun K w => K x25 w) (fun x56 w =>
 gW x52 false (fun K w => K x28 w) (fun x57 w =>
 gW x52 false (fun K w => idxW 2 x56 x57 K w) (fun x58 w =>
 gW x52 false (fun K w => addW 1 x58 K w) (fun x59 w =>
 gW x52 false (fun K w => load1W x59 K w) (fun x60 w =>
 gW x52 false (fun K w => CP Try.prog Fn.view_View_Know [x53, x55, x60] K w) (fun x61 w =>
 andP (fun w => andP (fun w => trueP w) (fun w => andP (fun w => trueP w) (fun w => trueP w) w) w) (fun w =>
 gW x52 false (fun K w => binIntW .neq x61 (Value.int .i64 0) K w) (fun x62 w =>
 pickW x52 (Value.bool true) x62 (fun x63 w =>
 gW x63 false (fun K w => K x3 w) (fun x64 w =>
 gW x63 false (fun K w => addW 0 x13 K w) (fun x65 w =>
 gW x63 false (fun K w => load1W x65 K w) (fun x66 w =>
 gW x63 false (fun K w => K x25 w) (fun x67 w =>
 gW x63 false (fun K w => K x28 w) (fun x68 w =>
 gW x63 false (fun K w => idxW 2 x67 x68 K w) (fun x69 w =>
 gW x63 false (fun K w => addW 1 x69 K w) (fun x70 w =>
 gW x63 false (fun K w => load1W x70 K w) (fun x71 w =>
 gW x63 false (fun K w => binIntW .add x71 (Value.int .u64 1) K w) (fun x72 w =>
 gW x63 false (fun K w => CP Try.prog Fn.view_View_Know [x64, x66, x72] K w) (fun x73 w =>
 andP (fun w => andP (fun w => trueP w) (fun w => andP (fun w => trueP w) (fun w => trueP w) w) w) (fun w =>
 gW x63 false (fun K w => binIntW .neq x73 (Value.int .i64 14) K w) (fun x74 w =>
 pickW x63 (Value.bool true) x74 (fun x75 w =>
 gW x75 false (fun K w => K x3 w) (fun x76 w =>
 gW x75 false (fun K w => K x25 w) (fun x77 w =>
 gW x75 false (fun K w => CP Try.prog Fn.view_View_Known [x76] K w) (fun x78 w =>
 andP (fun w => trueP w) (fun w =>
 gW x75 false (fun K w => CP Try.prog Fn.book_Same_api_Cell [x78, x77] K w) (fun x79 w =>
 andP (fun w => trueP w) (fun w =>
 gW x75 false (fun K w => notW x79 K w) (fun x80 w =>
 pickW x75 (Value.bool true) x80 (fun x81 w =>
 condP x81 (fun w => K (Value.bool false) w) (fun w => binIntW .add x5 (Value.int .i64 1) (fun x82 w =>
 J1 x82 w) w) w) w) w) w) w) w) w) w) w) w) w) w) w) w) w) w) w) w) w) w) w) w) w) w) w) w) w) w) w) w) w) w) w) w) w) w) w) w) w) w) w) w) w) w) w) w) w) w) w) w) w) w) w) w) w) w) w) w) w) w) w) w) w) w) w) w) w) w) w) w) w) w) w) w) w) w) w) w) w) w) (fun w => CP Try.prog Fn.view_View_Know [x3, (Value.int .i64 0), (Value.int .u64 1)] (fun x83 w =>
 binIntW .eql x83 (Value.int .i64 2) (fun x84 w =>
 gW x84 true (fun K w => K x3 w) (fun x85 w =>
 gW x84 true (fun K w => CP Try.prog Fn.view_View_Know [x85, (Value.int .i64 256), (Value.int .u64 1)] K w) (fun x86 w =>
 gW x84 true (fun K w => binIntW .eql x86 (Value.int .i64 2) K w) (fun x87 w =>
 pickW x84 x87 (Value.bool false) (fun x88 w =>
 gW x88 true (fun K w => K x3 w) (fun x89 w =>
 gW x88 true (fun K w => CP Try.prog Fn.view_View_Known [x89] K w) (fun x90 w =>
 gW x88 true (fun K w => lenW x90 K w) (fun x91 w =>
 gW x88 true (fun K w => K a0 w) (fun x92 w =>
 gW x88 true (fun K w => lenW x92 K w) (fun x93 w =>
 gW x88 true (fun K w => binIntW .leq x91 x93 K w) (fun x94 w =>
 pickW x88 x94 (Value.bool false) (fun x95 w =>
 K x95 w) w) w) w) w) w) w) w) w) w) w) w) w) w) w) w) w) w) w) w) w) w) w) w) w) w) w

/-- law10_ViewReads -/
def S_law10_ViewReads (a0 a1 a2 a3 a4 : Value) (K : KV) : World → Prop := fun w =>
 CP Try.prog Fn.law10_ViewRuns [] (fun x1 w =>
 notW x1 (fun x2 w =>
 condP x2 (fun w => K (Value.bool false) w) (fun w => CP Try.prog Fn.view_New [(Value.int .i64 64), (Value.int .i64 9)] (fun x3 w =>
 eqNilW .eql x3 (Value.pointer none) (fun x4 w =>
 condP x4 (fun w => K (Value.bool false) w) (fun w => convW .i64 a0 (fun x5 w =>
 binIntW .rem x5 (Value.int .i64 63) (fun x6 w =>
 binIntW .add x6 (Value.int .i64 1) (fun x7 w =>
 CP Try.prog Fn.view_View_Read [x3, x7] (fun x8 w =>
 extractW 0 x8 (fun x9 w =>
 extractW 1 x8 (fun x10 w =>
 binIntW .neq x10 (Value.int .i64 11) (fun x11 w =>
 gW x11 false (fun K w => K x3 w) (fun x12 w =>
 gW x11 false (fun K w => CP Try.prog Fn.view_View_Need [x12] K w) (fun x13 w =>
 gW x11 false (fun K w => K x7 w) (fun x14 w =>
 gW x11 false (fun K w => binIntW .neq x13 x14 K w) (fun x15 w =>
 pickW x11 (Value.bool true) x15 (fun x16 w =>
 condP x16 (fun w => K (Value.bool false) w) (fun w => binIntW .and a4 (Value.int .u8 1) (fun x17 w =>
 binIntW .eql x17 (Value.int .u8 1) (fun x18 w =>
 gW x18 true (fun K w => K x3 w) (fun x19 w =>
 gW x18 true (fun K w => K x7 w) (fun x20 w =>
 gW x18 true (fun K w => K a1 w) (fun x21 w =>
 gW x18 true (fun K w => CP Try.prog Fn.view_View_Know [x19, x20, x21] K w) (fun x22 w =>
 gW x18 true (fun K w => binIntW .neq x22 (Value.int .i64 0) K w) (fun x23 w =>
 pickW x18 x23 (Value.bool false) (fun x24 w =>
 condP x24 (fun w => K (Value.bool false) w) (fun w => binIntW .and a4 (Value.int .u8 2) (fun x25 w =>
 binIntW .eql x25 (Value.int .u8 2) (fun x26 w =>
 gW x26 true (fun K w => K x3 w) (fun x27 w =>
 gW x26 true (fun K w => K x7 w) (fun x28 w =>
 gW x26 true (fun K w => K a2 w) (fun x29 w =>
 gW x26 true (fun K w => CP Try.prog Fn.view_View_Write [x27, x28, x29] K w) (fun x30 w =>
 gW x26 true (fun K w => binIntW .neq x30 (Value.int .i64 0) K w) (fun x31 w =>
 pickW x26 x31 (Value.bool false) (fun x32 w =>
 condP x32 (fun w => K (Value.bool false) w) (fun w => CP Try.prog Fn.view_View_Open [x3] (fun x33 w =>
 binIntW .and a4 (Value.int .u8 4) (fun x34 w =>
 binIntW .eql x34 (Value.int .u8 4) (fun x35 w =>
 gW x35 true (fun K w => K x3 w) (fun x36 w =>
 gW x35 true (fun K w => K x7 w) (fun x37 w =>
 gW x35 true (fun K w => K a3 w) (fun x38 w =>
 gW x35 true (fun K w => CP Try.prog Fn.view_View_Write [x36, x37, x38] K w) (fun x39 w =>
 gW x35 true (fun K w => binIntW .neq x39 (Value.int .i64 0) K w) (fun x40 w =>
 pickW x35 x40 (Value.bool false) (fun x41 w =>
 condP x41 (fun w => K (Value.bool false) w) (fun w => binIntW .and a4 (Value.int .u8 8) (fun x42 w =>
 binIntW .eql x42 (Value.int .u8 8) (fun x43 w =>
 joinW0 (fun  w =>
 CP Try.prog Fn.view_View_Read [x3, x7] (fun x44 w =>
 extractW 0 x44 (fun x45 w =>
 extractW 1 x44 (fun x46 w =>
 binIntW .and a4 (Value.int .u8 1) (fun x47 w =>
 binIntW .eql x47 (Value.int .u8 1) (fun x48 w =>
 binIntW .and a4 (Value.int .u8 2) (fun x49 w =>
 binIntW .eql x49 (Value.int .u8 2) (fun x50 w =>
 joinW2 (fun x51 x52 w =>
 binIntW .and a4 (Value.int .u8 12) (fun x53 w =>
 binIntW .eql x53 (Value.int .u8 4) (fun x54 w =>
 joinW2 (fun x55 x56 w =>
 notW x56 (fun x57 w =>
 condP x57 (fun w => binIntW .eql x46 (Value.int .i64 11) (fun x58 w =>
 gW x58 true (fun K w => K x45 w) (fun x59 w =>
 gW x58 true (fun K w => binIntW .eql x59 (Value.int .u64 0) K w) (fun x60 w =>
 pickW x58 x60 (Value.bool false) (fun x61 w =>
 K x61 w) w) w) w) w) (fun w => binIntW .eql x46 (Value.int .i64 0) (fun x62 w =>
 gW x62 true (fun K w => K x45 w) (fun x63 w =>
 gW x62 true (fun K w => K x55 w) (fun x64 w =>
 gW x62 true (fun K w => binIntW .eql x63 x64 K w) (fun x65 w =>
 pickW x62 x65 (Value.bool false) (fun x66 w =>
 K x66 w) w) w) w) w) w) w) w) (fun j3 w =>
 condP x54 (fun w => j3 a3 (Value.bool true) w) (fun w => j3 x51 x52 w) w) w) w) w) (fun j2 w =>
 condP x50 (fun w => j2 a2 (Value.bool true) w) (fun w => j2 a1 x48 w) w) w) w) w) w) w) w) w) w) (fun j1 w =>
 condP x43 (fun w => CP Try.prog Fn.view_View_Drop [x3] (fun x67 w =>
 j1  w) w) (fun w => CP Try.prog Fn.view_View_Keep [x3] (fun x68 w =>
 j1  w) w) w) w) w) w) w) w) w) w) w) w) w) w) w) w) w) w) w) w) w) w) w) w) w) w) w) w) w) w) w) w) w) w) w) w) w) w) w) w) w) w) w) w) w) w) w) w) w) w) w) w) w

/-- law10_ViewPlays -/
def S_law10_ViewPlays (a0 a1 a2 : Value) (K : KV) : World → Prop := fun w =>
 CP Try.prog Fn.law10_ViewRuns [] (fun x1 w =>
 notW x1 (fun x2 w =>
 condP x2 (fun w => K (Value.bool false) w) (fun w => CP Try.prog Fn.view_New [a0, a1] (fun x3 w =>
 CP Try.prog Fn.ref7_NewView [a0, a1] (fun x4 w =>
 eqNilW .eql x3 (Value.pointer none) (fun x5 w =>
 condP x5 (fun w => K (Value.bool false) w) (fun w => loopW1 (Value.int .i64 0) (fun J1 x6 w =>
 lenW a2 (fun x7 w =>
 binIntW .lss x6 x7 (fun x8 w =>
 gW x8 true (fun K w => K x6 w) (fun x9 w =>
 gW x8 true (fun K w => binIntW .lss x9 (Value.int .i64 60) K w) (fun x10 w =>
 pickW x8 x10 (Value.bool false) (fun x11 w =>
 condP x11 (fun w => idxW 4 a2 x6 (fun x12 w =>
 loadNW 4 x12 (fun x13 w =>
 CP Try.prog Fn.law10_do [x3, x4, x13, x6] (fun x14 w =>
 notW x14 (fun x15 w =>
 gW x15 false (fun K w => K x3 w) (fun x16 w =>
 gW x15 false (fun K w => K x4 w) (fun x17 w =>
 gW x15 false (fun K w => CP Try.prog Fn.law10_same [x16, x17] K w) (fun x18 w =>
 gW x15 false (fun K w => notW x18 K w) (fun x19 w =>
 pickW x15 (Value.bool true) x19 (fun x20 w =>
 condP x20 (fun w => K (Value.bool false) w) (fun w => binIntW .add x6 (Value.int .i64 1) (fun x21 w =>
 J1 x21 w) w) w) w) w) w) w) w) w) w) w) w) (fun w => CP Try.prog Fn.law10_same [x3, x4] (fun x22 w =>
 K x22 w) w) w) w) w) w) w) w) w) w) w) w) w) w) w) w

/-- law10_ViewWhole -/
def S_law10_ViewWhole (a0 a1 a2 : Value) (K : KV) : World → Prop := fun w =>
 CP Try.prog Fn.law10_ViewRuns [] (fun x1 w =>
 notW x1 (fun x2 w =>
 condP x2 (fun w => K (Value.bool false) w) (fun w => lenW a0 (fun x3 w =>
 binIntW .gtr x3 (Value.int .i64 600) (fun x4 w =>
 condP x4 (fun w => K (Value.bool true) w) (fun w => CP Try.prog Fn.view_Whole [a0, a1] (fun x5 w =>
 CP Try.prog Fn.ref7_Whole [a0, a1] (fun x6 w =>
 eqNilW .eql x5 (Value.pointer none) (fun x7 w =>
 gW x7 false (fun K w => K x5 w) (fun x8 w =>
 gW x7 false (fun K w => K x6 w) (fun x9 w =>
 gW x7 false (fun K w => CP Try.prog Fn.law10_same [x8, x9] K w) (fun x10 w =>
 gW x7 false (fun K w => notW x10 K w) (fun x11 w =>
 pickW x7 (Value.bool true) x11 (fun x12 w =>
 condP x12 (fun w => K (Value.bool false) w) (fun w => loopW1 (Value.int .i64 0) (fun J1 x13 w =>
 lenW a2 (fun x14 w =>
 binIntW .lss x13 x14 (fun x15 w =>
 gW x15 true (fun K w => K x13 w) (fun x16 w =>
 gW x15 true (fun K w => binIntW .lss x16 (Value.int .i64 30) K w) (fun x17 w =>
 pickW x15 x17 (Value.bool false) (fun x18 w =>
 condP x18 (fun w => idxW 4 a2 x13 (fun x19 w =>
 loadNW 4 x19 (fun x20 w =>
 CP Try.prog Fn.law10_do [x5, x6, x20, x13] (fun x21 w =>
 notW x21 (fun x22 w =>
 condP x22 (fun w => K (Value.bool false) w) (fun w => binIntW .add x13 (Value.int .i64 1) (fun x23 w =>
 J1 x23 w) w) w) w) w) w) w) (fun w => CP Try.prog Fn.law10_same [x5, x6] (fun x24 w =>
 K x24 w) w) w) w) w) w) w) w) w) w) w) w) w) w) w) w) w) w) w) w) w) w) w) w

/-- law8_WritesRuns -/
def S_law8_WritesRuns (K : KV) : World → Prop := fun w =>
 CP Try.prog Fn.writes_New [(Value.int .i64 5)] (fun x1 w =>
 eqNilW .eql x1 (Value.pointer none) (fun x2 w =>
 condP x2 (fun w => K (Value.bool false) w) (fun w => CP Try.prog Fn.writes_Writes_Put [x1, (Value.int .i64 9), (Value.int .u64 1)] (fun x3 w =>
 CP Try.prog Fn.writes_Writes_Put [x1, (Value.int .i64 4), (Value.int .u64 2)] (fun x4 w =>
 CP Try.prog Fn.writes_Writes_Put [x1, (Value.int .i64 9), (Value.int .u64 3)] (fun x5 w =>
 CP Try.prog Fn.writes_Writes_All [x1] (fun x6 w =>
 CP Try.prog Fn.writes_Writes_Get [x1, (Value.int .i64 9)] (fun x7 w =>
 extractW 0 x7 (fun x8 w =>
 extractW 1 x7 (fun x9 w =>
 CP Try.prog Fn.writes_Stripes [x6, (Value.int .i64 4), (Value.int .i64 2)] (fun x10 w =>
 binIntW .eql x3 (Value.int .i64 0) (fun x11 w =>
 gW x11 true (fun K w => K x4 w) (fun x12 w =>
 gW x11 true (fun K w => binIntW .eql x12 (Value.int .i64 0) K w) (fun x13 w =>
 pickW x11 x13 (Value.bool false) (fun x14 w =>
 gW x14 true (fun K w => K x5 w) (fun x15 w =>
 gW x14 true (fun K w => binIntW .eql x15 (Value.int .i64 0) K w) (fun x16 w =>
 pickW x14 x16 (Value.bool false) (fun x17 w =>
 gW x17 true (fun K w => K x6 w) (fun x18 w =>
 gW x17 true (fun K w => lenW x18 K w) (fun x19 w =>
 gW x17 true (fun K w => binIntW .eql x19 (Value.int .i64 2) K w) (fun x20 w =>
 pickW x17 x20 (Value.bool false) (fun x21 w =>
 gW x21 true (fun K w => K x6 w) (fun x22 w =>
 gW x21 true (fun K w => idxW 2 x22 (Value.int .i64 0) K w) (fun x23 w =>
 gW x21 true (fun K w => loadNW 2 x23 K w) (fun x24 w =>
 gW x21 true (fun K w => buildW [(Value.int .i64 0), (Value.int .u64 0)] [(0, 1, (Value.int .i64 9)), (1, 1, (Value.int .u64 3))] K w) (fun x25 w =>
 gW x21 true (fun K w => eqAggW [.i .i64, .i .u64] .eql x24 x25 K w) (fun x26 w =>
 pickW x21 x26 (Value.bool false) (fun x27 w =>
 gW x27 true (fun K w => K x6 w) (fun x28 w =>
 gW x27 true (fun K w => idxW 2 x28 (Value.int .i64 1) K w) (fun x29 w =>
 gW x27 true (fun K w => loadNW 2 x29 K w) (fun x30 w =>
 gW x27 true (fun K w => buildW [(Value.int .i64 0), (Value.int .u64 0)] [(0, 1, (Value.int .i64 4)), (1, 1, (Value.int .u64 2))] K w) (fun x31 w =>
 gW x27 true (fun K w => eqAggW [.i .i64, .i .u64] .eql x30 x31 K w) (fun x32 w =>
 pickW x27 x32 (Value.bool false) (fun x33 w =>
 gW x33 true (fun K w => K x9 w) (fun x34 w =>
 pickW x33 x34 (Value.bool false) (fun x35 w =>
 gW x35 true (fun K w => K x8 w) (fun x36 w =>
 gW x35 true (fun K w => binIntW .eql x36 (Value.int .u64 3) K w) (fun x37 w =>
 pickW x35 x37 (Value.bool false) (fun x38 w =>
 gW x38 true (fun K w => K x1 w) (fun x39 w =>
 gW x38 true (fun K w => CP Try.prog Fn.writes_Writes_Len [x39] K w) (fun x40 w =>
 gW x38 true (fun K w => binIntW .eql x40 (Value.int .i64 2) K w) (fun x41 w =>
 pickW x38 x41 (Value.bool false) (fun x42 w =>
 gW x42 true (fun K w => K x10 w) (fun x43 w =>
 gW x42 true (fun K w => lenW x43 K w) (fun x44 w =>
 gW x42 true (fun K w => binIntW .eql x44 (Value.int .i64 2) K w) (fun x45 w =>
 pickW x42 x45 (Value.bool false) (fun x46 w =>
 gW x46 true (fun K w => K x10 w) (fun x47 w =>
 gW x46 true (fun K w => idxW 1 x47 (Value.int .i64 0) K w) (fun x48 w =>
 gW x46 true (fun K w => load1W x48 K w) (fun x49 w =>
 gW x46 true (fun K w => binIntW .eql x49 (Value.int .i64 0) K w) (fun x50 w =>
 pickW x46 x50 (Value.bool false) (fun x51 w =>
 gW x51 true (fun K w => K x10 w) (fun x52 w =>
 gW x51 true (fun K w => idxW 1 x52 (Value.int .i64 1) K w) (fun x53 w =>
 gW x51 true (fun K w => load1W x53 K w) (fun x54 w =>
 gW x51 true (fun K w => binIntW .eql x54 (Value.int .i64 2) K w) (fun x55 w =>
 pickW x51 x55 (Value.bool false) (fun x56 w =>
 K x56 w) w) w) w) w) w) w) w) w) w) w) w) w) w) w) w) w) w) w) w) w) w) w) w) w) w) w) w) w) w) w) w) w) w) w) w) w) w) w) w) w) w) w) w) w) w) w) w) w) w) w) w) w) w) w) w) w) w

/-- law8_WritesStripes -/
def S_law8_WritesStripes (a0 a1 a2 a3 : Value) (K : KV) : World → Prop := fun w =>
 CP Try.prog Fn.law8_WritesRuns [] (fun x1 w =>
 notW x1 (fun x2 w =>
 condP x2 (fun w => K (Value.bool false) w) (fun w => lenW a0 (fun x3 w =>
 binIntW .gtr x3 (Value.int .i64 200) (fun x4 w =>
 condP x4 (fun w => K (Value.bool true) w) (fun w => loopW2 (Value.slice none 0 0) (Value.int .i64 0) (fun J1 x5 x6 w =>
 lenW a0 (fun x7 w =>
 binIntW .lss x6 x7 (fun x8 w =>
 condP x8 (fun w => idxW 2 a0 x6 (fun x9 w =>
 loadNW 2 x9 (fun x10 w =>
 newW #[(Value.int .i64 0), (Value.int .u64 0)] (fun x11 w =>
 storeW 2 x11 x10 (fun _ w =>
 notW a3 (fun x13 w =>
 joinW0 (fun  w =>
 loadNW 2 x11 (fun x14 w =>
 buildSliceW [(Value.int .i64 0), (Value.int .u64 0)] 1 [(0, 2, x14)] (fun x15 w =>
 appendW 2 16 x5 x15 (fun x16 w =>
 binIntW .add x6 (Value.int .i64 1) (fun x17 w =>
 J1 x16 x17 w) w) w) w) w) (fun j1 w =>
 condP x13 (fun w => addW 0 x11 (fun x18 w =>
 load1W x18 (fun x19 w =>
 CP Try.prog Fn.book_Within [x19, (Value.int .i64 1), (Value.int .i64 255)] (fun x20 w =>
 addW 0 x11 (fun x21 w =>
 storeW 1 x21 x20 (fun _ w =>
 j1  w) w) w) w) w) w) (fun w => j1  w) w) w) w) w) w) w) w) (fun w => CP Try.prog Fn.writes_Stripes [x5, a1, a2] (fun x23 w =>
 CP Try.prog Fn.ref7_Stripes [x5, a1, a2] (fun x24 w =>
 CP Try.prog Fn.book_Same_int [x23, x24] (fun x25 w =>
 K x25 w) w) w) w) w) w) w) w) w) w) w) w) w) w

/-- law8_WritesLast -/
def S_law8_WritesLast (a0 a1 : Value) (K : KV) : World → Prop := fun w =>
 CP Try.prog Fn.law8_WritesRuns [] (fun x1 w =>
 notW x1 (fun x2 w =>
 condP x2 (fun w => K (Value.bool false) w) (fun w => CP Try.prog Fn.writes_New [(Value.int .i64 96)] (fun x3 w =>
 eqNilW .eql x3 (Value.pointer none) (fun x4 w =>
 condP x4 (fun w => K (Value.bool false) w) (fun w => newW #[(Value.int .u64 0), (Value.int .u64 0), (Value.int .u64 0), (Value.int .u64 0), (Value.int .u64 0), (Value.int .u64 0), (Value.int .u64 0), (Value.int .u64 0), (Value.int .u64 0), (Value.int .u64 0), (Value.int .u64 0), (Value.int .u64 0), (Value.int .u64 0), (Value.int .u64 0), (Value.int .u64 0), (Value.int .u64 0), (Value.int .u64 0), (Value.int .u64 0), (Value.int .u64 0), (Value.int .u64 0)] (fun x5 w =>
 newW #[(Value.bool false), (Value.bool false), (Value.bool false), (Value.bool false), (Value.bool false), (Value.bool false), (Value.bool false), (Value.bool false), (Value.bool false), (Value.bool false), (Value.bool false), (Value.bool false), (Value.bool false), (Value.bool false), (Value.bool false), (Value.bool false), (Value.bool false), (Value.bool false), (Value.bool false), (Value.bool false)] (fun x6 w =>
 loopW2 (Value.slice none 0 0) (Value.int .i64 0) (fun J1 x7 x8 w =>
 lenW a0 (fun x9 w =>
 binIntW .lss x8 x9 (fun x10 w =>
 gW x10 true (fun K w => K x8 w) (fun x11 w =>
 gW x10 true (fun K w => K a1 w) (fun x12 w =>
 gW x10 true (fun K w => lenW x12 K w) (fun x13 w =>
 gW x10 true (fun K w => binIntW .lss x11 x13 K w) (fun x14 w =>
 pickW x10 x14 (Value.bool false) (fun x15 w =>
 gW x15 true (fun K w => K x8 w) (fun x16 w =>
 gW x15 true (fun K w => binIntW .lss x16 (Value.int .i64 80) K w) (fun x17 w =>
 pickW x15 x17 (Value.bool false) (fun x18 w =>
 condP x18 (fun w => idxW 1 a0 x8 (fun x19 w =>
 load1W x19 (fun x20 w =>
 binIntW .rem x20 (Value.int .u8 19) (fun x21 w =>
 convW .i64 x21 (fun x22 w =>
 binIntW .add x22 (Value.int .i64 1) (fun x23 w =>
 idxW 1 a1 x8 (fun x24 w =>
 load1W x24 (fun x25 w =>
 CP Try.prog Fn.writes_Writes_Put [x3, x23, x25] (fun x26 w =>
 binIntW .neq x26 (Value.int .i64 0) (fun x27 w =>
 condP x27 (fun w => K (Value.bool false) w) (fun w => idxArrW 20 1 x6 x23 (fun x28 w =>
 load1W x28 (fun x29 w =>
 notW x29 (fun x30 w =>
 joinW1 (fun x31 w =>
 drewW (fun w => idxW 1 a1 x8 (fun x32 w =>
 load1W x32 (fun x33 w =>
 idxArrW 20 1 x6 x23 (fun x34 w =>
 storeW 1 x34 (Value.bool true) (fun _ w =>
 andP (fun w => andP (fun w => load1W x32 (fun v w => eqP v x33 w) w) (fun w => trueP w) w) (fun w =>
 idxArrW 20 1 x5 x23 (fun x36 w =>
 storeW 1 x36 x33 (fun _ w =>
 andP (fun w => andP (fun w => trueP w) (fun w => trueP w) w) (fun w =>
 binIntW .add x8 (Value.int .i64 1) (fun x38 w =>
 J1 x31 x38 w) w) w) w) w) w) w) w) w) w) w) (fun j1 w =>
 condP x30 (fun w => buildSliceW [(Value.int .i64 0)] 1 [(0, 1, x23)] (fun x39 w =>
 appendW 1 8 x7 x39 (fun x40 w =>
 j1 x40 w) w) w) (fun w => j1 x7 w) w) w) w) w) w) w) w) w) w) w) w) w) w) w) w) (fun w => CP Try.prog Fn.writes_Writes_All [x3] (fun x41 w =>
 lenW x41 (fun x42 w =>
 lenW x7 (fun x43 w =>
 binIntW .neq x42 x43 (fun x44 w =>
 condP x44 (fun w => K (Value.bool false) w) (fun w => loopW1 (Value.int .i64 0) (fun J2 x45 w =>
 lenW x41 (fun x46 w =>
 binIntW .lss x45 x46 (fun x47 w =>
 condP x47 (fun w => drewW (fun w => idxW 2 x41 x45 (fun x48 w =>
 addW 0 x48 (fun x49 w =>
 load1W x49 (fun x50 w =>
 idxW 1 x7 x45 (fun x51 w =>
 load1W x51 (fun x52 w =>
 binIntW .neq x50 x52 (fun x53 w =>
 gW x53 false (fun K w => K x41 w) (fun x54 w =>
 gW x53 false (fun K w => K x45 w) (fun x55 w =>
 gW x53 false (fun K w => idxW 2 x54 x55 K w) (fun x56 w =>
 gW x53 false (fun K w => addW 1 x56 K w) (fun x57 w =>
 gW x53 false (fun K w => load1W x57 K w) (fun x58 w =>
 gW x53 false (fun K w => K x7 w) (fun x59 w =>
 gW x53 false (fun K w => K x45 w) (fun x60 w =>
 gW x53 false (fun K w => idxW 1 x59 x60 K w) (fun x61 w =>
 gW x53 false (fun K w => load1W x61 K w) (fun x62 w =>
 gW x53 false (fun K w => idxArrW 20 1 x5 x62 K w) (fun x63 w =>
 gW x53 false (fun K w => load1W x63 K w) (fun x64 w =>
 gW x53 false (fun K w => binIntW .neq x58 x64 K w) (fun x65 w =>
 pickW x53 (Value.bool true) x65 (fun x66 w =>
 condP x66 (fun w => K (Value.bool false) w) (fun w => binIntW .add x45 (Value.int .i64 1) (fun x67 w =>
 J2 x67 w) w) w) w) w) w) w) w) w) w) w) w) w) w) w) w) w) w) w) w) w) w) w) (fun w => K (Value.bool true) w) w) w) w) w) w) w) w) w) w) w) w) w) w) w) w) w) w) w) w) w) w) w) w) w) w) w) w) w) w

/-- law8_WritesPlays -/
def S_law8_WritesPlays (a0 a1 : Value) (K : KV) : World → Prop := fun w =>
 CP Try.prog Fn.law8_WritesRuns [] (fun x1 w =>
 notW x1 (fun x2 w =>
 condP x2 (fun w => K (Value.bool false) w) (fun w => CP Try.prog Fn.writes_New [a0] (fun x3 w =>
 eqNilW .eql x3 (Value.pointer none) (fun x4 w =>
 condP x4 (fun w => K (Value.bool false) w) (fun w => CP Try.prog Fn.book_Clamp [a0, (Value.int .i64 0), (Value.int .i64 96)] (fun x5 w =>
 loopW2 (Value.slice none 0 0) (Value.int .i64 0) (fun J1 x6 x7 w =>
 lenW a1 (fun x8 w =>
 binIntW .lss x7 x8 (fun x9 w =>
 gW x9 true (fun K w => K x7 w) (fun x10 w =>
 gW x9 true (fun K w => binIntW .lss x10 (Value.int .i64 40) K w) (fun x11 w =>
 pickW x9 x11 (Value.bool false) (fun x12 w =>
 condP x12 (fun w => idxW 4 a1 x7 (fun x13 w =>
 loadNW 4 x13 (fun x14 w =>
 newW #[(Value.bool false), (Value.int .i64 0), (Value.int .u64 0), (Value.slice none 0 0)] (fun x15 w =>
 storeW 4 x15 x14 (fun _ w =>
 addW 0 x15 (fun x17 w =>
 load1W x17 (fun x18 w =>
 notW x18 (fun x19 w =>
 joinW1 (fun x20 w =>
 loopW2 x20 (Value.int .i64 0) (fun J2 x21 x22 w =>
 addW 0 x15 (fun x23 w =>
 load1W x23 (fun x24 w =>
 gW x24 true (fun K w => K x22 w) (fun x25 w =>
 gW x24 true (fun K w => addW 3 x15 K w) (fun x26 w =>
 gW x24 true (fun K w => load1W x26 K w) (fun x27 w =>
 gW x24 true (fun K w => lenW x27 K w) (fun x28 w =>
 gW x24 true (fun K w => binIntW .lss x25 x28 K w) (fun x29 w =>
 pickW x24 x29 (Value.bool false) (fun x30 w =>
 gW x30 true (fun K w => K x22 w) (fun x31 w =>
 gW x30 true (fun K w => binIntW .lss x31 (Value.int .i64 12) K w) (fun x32 w =>
 pickW x30 x32 (Value.bool false) (fun x33 w =>
 condP x33 (fun w => addW 3 x15 (fun x34 w =>
 load1W x34 (fun x35 w =>
 idxW 2 x35 x22 (fun x36 w =>
 loadNW 2 x36 (fun x37 w =>
 binIntW .add x7 x22 (fun x38 w =>
 CP Try.prog Fn.law8_near [x37, x38] (fun x39 w =>
 buildSliceW [(Value.int .i64 0), (Value.int .u64 0)] 1 [(0, 2, x39)] (fun x40 w =>
 appendW 2 16 x21 x40 (fun x41 w =>
 binIntW .add x22 (Value.int .i64 1) (fun x42 w =>
 J2 x41 x42 w) w) w) w) w) w) w) w) w) w) (fun w => CP Try.prog Fn.law8_take [x6, x21, x5] (fun x43 w =>
 extractW 0 x43 (fun x44 w =>
 extractW 1 x43 (fun x45 w =>
 drewW (fun w => addW 0 x15 (fun x46 w =>
 load1W x46 (fun x47 w =>
 gW x47 true (fun K w => K x3 w) (fun x48 w =>
 gW x47 true (fun K w => K x21 w) (fun x49 w =>
 gW x47 true (fun K w => K x45 w) (fun x50 w =>
 gW x47 true (fun K w => CP Try.prog Fn.writes_Writes_Take [x48, x49] K w) (fun x51 w =>
 andP (fun w => andP (fun w => trueP w) (fun w => trueP w) w) (fun w =>
 gW x47 true (fun K w => binIntW .neq x51 x50 K w) (fun x52 w =>
 pickW x47 x52 (Value.bool false) (fun x53 w =>
 gW x53 false (fun K w => addW 0 x15 K w) (fun x54 w =>
 gW x53 false (fun K w => load1W x54 K w) (fun x55 w =>
 gW x53 false (fun K w => notW x55 K w) (fun x56 w =>
 gW x53 false (fun K w => K x56 w) (fun x57 w =>
 gW x57 true (fun K w => K x3 w) (fun x58 w =>
 gW x57 true (fun K w => K x21 w) (fun x59 w =>
 gW x57 true (fun K w => idxW 2 x59 (Value.int .i64 0) K w) (fun x60 w =>
 gW x57 true (fun K w => addW 0 x60 K w) (fun x61 w =>
 gW x57 true (fun K w => load1W x61 K w) (fun x62 w =>
 gW x57 true (fun K w => K x21 w) (fun x63 w =>
 gW x57 true (fun K w => idxW 2 x63 (Value.int .i64 0) K w) (fun x64 w =>
 gW x57 true (fun K w => addW 1 x64 K w) (fun x65 w =>
 gW x57 true (fun K w => load1W x65 K w) (fun x66 w =>
 gW x57 true (fun K w => K x45 w) (fun x67 w =>
 gW x57 true (fun K w => CP Try.prog Fn.writes_Writes_Put [x58, x62, x66] K w) (fun x68 w =>
 andP (fun w => andP (fun w => trueP w) (fun w => andP (fun w => trueP w) (fun w => andP (fun w => trueP w) (fun w => trueP w) w) w) w) (fun w =>
 gW x57 true (fun K w => binIntW .neq x68 x67 K w) (fun x69 w =>
 gW x53 false (fun K w => pickW x57 x69 (Value.bool false) K w) (fun x70 w =>
 pickW x53 (Value.bool true) x70 (fun x71 w =>
 condP x71 (fun w => K (Value.bool false) w) (fun w => addW 1 x15 (fun x72 w =>
 loadNW 2 x72 (fun x73 w =>
 CP Try.prog Fn.law8_near [x73, x7] (fun x74 w =>
 partW false 0 1 x74 (fun x75 w =>
 CP Try.prog Fn.writes_Writes_Get [x3, x75] (fun x76 w =>
 extractW 0 x76 (fun x77 w =>
 extractW 1 x76 (fun x78 w =>
 CP Try.prog Fn.ref7_Place [x44, x75] (fun x79 w =>
 binIntW .geq x79 (Value.int .i64 0) (fun x80 w =>
 binBoolW .neq x78 x80 (fun x81 w =>
 gW x81 false (fun K w => K x78 w) (fun x82 w =>
 gW x81 false (fun K w => K x82 w) (fun x83 w =>
 gW x83 true (fun K w => K x77 w) (fun x84 w =>
 gW x83 true (fun K w => K x44 w) (fun x85 w =>
 gW x83 true (fun K w => K x79 w) (fun x86 w =>
 gW x83 true (fun K w => idxW 2 x85 x86 K w) (fun x87 w =>
 gW x83 true (fun K w => addW 1 x87 K w) (fun x88 w =>
 gW x83 true (fun K w => load1W x88 K w) (fun x89 w =>
 gW x83 true (fun K w => binIntW .neq x84 x89 K w) (fun x90 w =>
 gW x81 false (fun K w => pickW x83 x90 (Value.bool false) K w) (fun x91 w =>
 pickW x81 (Value.bool true) x91 (fun x92 w =>
 gW x92 false (fun K w => K x78 w) (fun x93 w =>
 gW x92 false (fun K w => notW x93 K w) (fun x94 w =>
 gW x92 false (fun K w => K x94 w) (fun x95 w =>
 gW x95 true (fun K w => K x77 w) (fun x96 w =>
 gW x95 true (fun K w => binIntW .neq x96 (Value.int .u64 0) K w) (fun x97 w =>
 gW x92 false (fun K w => pickW x95 x97 (Value.bool false) K w) (fun x98 w =>
 pickW x92 (Value.bool true) x98 (fun x99 w =>
 gW x99 false (fun K w => K x3 w) (fun x100 w =>
 gW x99 false (fun K w => CP Try.prog Fn.writes_Writes_All [x100] K w) (fun x101 w =>
 gW x99 false (fun K w => K x44 w) (fun x102 w =>
 gW x99 false (fun K w => CP Try.prog Fn.book_Same_api_Cell [x101, x102] K w) (fun x103 w =>
 gW x99 false (fun K w => notW x103 K w) (fun x104 w =>
 pickW x99 (Value.bool true) x104 (fun x105 w =>
 gW x105 false (fun K w => K x3 w) (fun x106 w =>
 gW x105 false (fun K w => CP Try.prog Fn.writes_Writes_Len [x106] K w) (fun x107 w =>
 gW x105 false (fun K w => K x44 w) (fun x108 w =>
 gW x105 false (fun K w => lenW x108 K w) (fun x109 w =>
 gW x105 false (fun K w => binIntW .neq x107 x109 K w) (fun x110 w =>
 pickW x105 (Value.bool true) x110 (fun x111 w =>
 condP x111 (fun w => K (Value.bool false) w) (fun w => binIntW .add x7 (Value.int .i64 1) (fun x112 w =>
 J1 x44 x112 w) w) w) w) w) w) w) w) w) w) w) w) w) w) w) w) w) w) w) w) w) w) w) w) w) w) w) w) w) w) w) w) w) w) w) w) w) w) w) w) w) w) w) w) w) w) w) w) w) w) w) w) w) w) w) w) w) w) w) w) w) w) w) w) w) w) w) w) w) w) w) w) w) w) w) w) w) w) w) w) w) w) w) w) w) w) w) w) w) (fun j1 w =>
 condP x19 (fun w => addW 1 x15 (fun x113 w =>
 loadNW 2 x113 (fun x114 w =>
 CP Try.prog Fn.law8_near [x114, x7] (fun x115 w =>
 buildSliceW [(Value.int .i64 0), (Value.int .u64 0)] 1 [(0, 2, x115)] (fun x116 w =>
 appendW 2 16 (Value.slice none 0 0) x116 (fun x117 w =>
 j1 x117 w) w) w) w) w) w) (fun w => j1 (Value.slice none 0 0) w) w) w) w) w) w) w) w) w) w) (fun w => K (Value.bool true) w) w) w) w) w) w) w) w) w) w) w) w) w) w) w

/-- law8_WritesWhole -/
def S_law8_WritesWhole (a0 a1 a2 : Value) (K : KV) : World → Prop := fun w =>
 CP Try.prog Fn.law8_WritesRuns [] (fun x1 w =>
 notW x1 (fun x2 w =>
 condP x2 (fun w => K (Value.bool false) w) (fun w => CP Try.prog Fn.writes_New [a0] (fun x3 w =>
 CP Try.prog Fn.writes_New [a0] (fun x4 w =>
 eqNilW .eql x3 (Value.pointer none) (fun x5 w =>
 gW x5 false (fun K w => K x4 w) (fun x6 w =>
 gW x5 false (fun K w => eqNilW .eql x6 (Value.pointer none) K w) (fun x7 w =>
 pickW x5 (Value.bool true) x7 (fun x8 w =>
 condP x8 (fun w => K (Value.bool false) w) (fun w => loopW1 (Value.int .i64 0) (fun J1 x9 w =>
 lenW a1 (fun x10 w =>
 binIntW .lss x9 x10 (fun x11 w =>
 gW x11 true (fun K w => K x9 w) (fun x12 w =>
 gW x11 true (fun K w => binIntW .lss x12 (Value.int .i64 30) K w) (fun x13 w =>
 pickW x11 x13 (Value.bool false) (fun x14 w =>
 condP x14 (fun w => idxW 2 a1 x9 (fun x15 w =>
 loadNW 2 x15 (fun x16 w =>
 CP Try.prog Fn.law8_near [x16, x9] (fun x17 w =>
 newW #[(Value.int .i64 0), (Value.int .u64 0)] (fun x18 w =>
 storeW 2 x18 x17 (fun _ w =>
 drewW (fun w => addW 0 x18 (fun x20 w =>
 load1W x20 (fun x21 w =>
 addW 1 x18 (fun x22 w =>
 load1W x22 (fun x23 w =>
 addW 0 x18 (fun x24 w =>
 load1W x24 (fun x25 w =>
 addW 1 x18 (fun x26 w =>
 load1W x26 (fun x27 w =>
 CP Try.prog Fn.writes_Writes_Put [x3, x21, x23] (fun x28 w =>
 andP (fun w => andP (fun w => load1W x26 (fun v w => eqP v x27 w) w) (fun w => andP (fun w => load1W x24 (fun v w => eqP v x25 w) w) (fun w => andP (fun w => trueP w) (fun w => andP (fun w => trueP w) (fun w => trueP w) w) w) w) w) (fun w =>
 CP Try.prog Fn.writes_Writes_Put [x4, x25, x27] (fun x29 w =>
 andP (fun w => andP (fun w => trueP w) (fun w => andP (fun w => trueP w) (fun w => trueP w) w) w) (fun w =>
 binIntW .neq x28 x29 (fun x30 w =>
 condP x30 (fun w => K (Value.bool false) w) (fun w => binIntW .add x9 (Value.int .i64 1) (fun x31 w =>
 J1 x31 w) w) w) w) w) w) w) w) w) w) w) w) w) w) w) w) w) w) w) w) w) w) (fun w => CP Try.prog Fn.writes_Writes_All [x3] (fun x32 w =>
 loopW3 (Value.slice none 0 0) (Value.int .i64 0) (Value.int .i64 0) (fun J2 x33 x34 x35 w =>
 lenW a2 (fun x36 w =>
 binIntW .lss x35 x36 (fun x37 w =>
 gW x37 true (fun K w => K x35 w) (fun x38 w =>
 gW x37 true (fun K w => binIntW .lss x38 (Value.int .i64 30) K w) (fun x39 w =>
 pickW x37 x39 (Value.bool false) (fun x40 w =>
 condP x40 (fun w => idxW 2 a2 x35 (fun x41 w =>
 loadNW 2 x41 (fun x42 w =>
 CP Try.prog Fn.law8_near [x42, x35] (fun x43 w =>
 buildSliceW [(Value.int .i64 0), (Value.int .u64 0)] 1 [(0, 2, x43)] (fun x44 w =>
 appendW 2 16 x33 x44 (fun x45 w =>
 binIntW .eql x34 (Value.int .i64 0) (fun x46 w =>
 joinW1 (fun x47 w =>
 binIntW .add x35 (Value.int .i64 1) (fun x48 w =>
 J2 x45 x47 x48 w) w) (fun j1 w =>
 condP x46 (fun w => drewW (fun w => idxW 2 x45 x35 (fun x49 w =>
 addW 0 x49 (fun x50 w =>
 load1W x50 (fun x51 w =>
 idxW 2 x45 x35 (fun x52 w =>
 addW 1 x52 (fun x53 w =>
 load1W x53 (fun x54 w =>
 CP Try.prog Fn.writes_Writes_Put [x4, x51, x54] (fun x55 w =>
 andP (fun w => andP (fun w => trueP w) (fun w => andP (fun w => trueP w) (fun w => trueP w) w) w) (fun w =>
 j1 x55 w) w) w) w) w) w) w) w) w) w) (fun w => j1 x34 w) w) w) w) w) w) w) w) w) (fun w => CP Try.prog Fn.writes_Writes_Take [x3, x33] (fun x56 w =>
 binIntW .neq x56 x34 (fun x57 w =>
 condP x57 (fun w => K (Value.bool false) w) (fun w => binIntW .neq x56 (Value.int .i64 0) (fun x58 w =>
 condP x58 (fun w => CP Try.prog Fn.writes_Writes_All [x3] (fun x59 w =>
 CP Try.prog Fn.book_Same_api_Cell [x59, x32] (fun x60 w =>
 K x60 w) w) w) (fun w => CP Try.prog Fn.writes_Writes_All [x3] (fun x61 w =>
 CP Try.prog Fn.writes_Writes_All [x4] (fun x62 w =>
 CP Try.prog Fn.book_Same_api_Cell [x61, x62] (fun x63 w =>
 K x63 w) w) w) w) w) w) w) w) w) w) w) w) w) w) w) w) w) w) w) w) w) w) w) w) w) w) w) w) w) w) w) w) w) w

/-- view_New -/
def S_view_New (a0 a1 : Value) (K : KV) : World → Prop := fun w =>
 drewW (fun w => minW a0 [(Value.int .i64 256)] (fun x1 w =>
 maxW (Value.int .i64 32) [x1] (fun x2 w =>
 andP (fun w => makeSliceW 16 [(Value.int .u64 0), (Value.bool false)] x2 x2 (fun x3 w =>
 andP (fun w => trueP w) (fun w =>
 CP Try.prog Fn.levels_New [a1] (fun x4 w =>
 andP (fun w => trueP w) (fun w =>
 buildW [(Value.slice none 0 0), (Value.slice none 0 0), (Value.pointer none), (Value.int .i64 0)] [(0, 1, x3), (2, 1, x4)] (fun x5 w =>
 boxW x5 (fun x6 w =>
 andP (fun w => trueP w) (fun w =>
 K x6 w) w) w) w) w) w) w) w) (fun w => CP Try.prog Fn.levels_New [a1] (fun x7 w =>
 andP (fun w => trueP w) (fun w =>
 makeSliceW 16 [(Value.int .u64 0), (Value.bool false)] x2 x2 (fun x8 w =>
 andP (fun w => trueP w) (fun w =>
 buildW [(Value.slice none 0 0), (Value.slice none 0 0), (Value.pointer none), (Value.int .i64 0)] [(0, 1, x8), (2, 1, x7)] (fun x9 w =>
 boxW x9 (fun x10 w =>
 andP (fun w => trueP w) (fun w =>
 K x10 w) w) w) w) w) w) w) w) w) w) w) w

/-- view_View_Read -/
def S_view_View_Read (a0 a1 : Value) (K : KV) : World → Prop := fun w =>
 CP Try.prog Fn.view_View_is [a0, a1] (fun x1 w =>
 notW x1 (fun x2 w =>
 condP x2 (fun w => K (Value.tuple #[(Value.int .u64 0), (Value.int .i64 2)]) w) (fun w => nilW a0 (fun x3 w =>
 addW 2 x3 (fun x4 w =>
 load1W x4 (fun x5 w =>
 CP Try.prog Fn.levels_Levels_Get [x5, a1] (fun x6 w =>
 extractW 0 x6 (fun x7 w =>
 extractW 1 x6 (fun x8 w =>
 condP x8 (fun w => K (Value.tuple #[x7, (Value.int .i64 0)]) w) (fun w => nilW a0 (fun x9 w =>
 addW 0 x9 (fun x10 w =>
 load1W x10 (fun x11 w =>
 idxW 2 x11 a1 (fun x12 w =>
 loadNW 2 x12 (fun x13 w =>
 newW #[(Value.int .u64 0), (Value.bool false)] (fun x14 w =>
 storeW 2 x14 x13 (fun _ w =>
 addW 1 x14 (fun x16 w =>
 load1W x16 (fun x17 w =>
 condP x17 (fun w => addW 0 x14 (fun x18 w =>
 load1W x18 (fun x19 w =>
 K (Value.tuple #[x19, (Value.int .i64 0)]) w) w) w) (fun w => nilW a0 (fun x20 w =>
 addW 3 x20 (fun x21 w =>
 storeW 1 x21 a1 (fun _ w =>
 K (Value.tuple #[(Value.int .u64 0), (Value.int .i64 11)]) w) w) w) w) w) w) w) w) w) w) w) w) w) w) w) w) w) w) w) w) w) w) w) w

/-- view_View_Need -/
def S_view_View_Need (a0 : Value) (K : KV) : World → Prop := fun w =>
 nilW a0 (fun x1 w =>
 addW 3 x1 (fun x2 w =>
 load1W x2 (fun x3 w =>
 K x3 w) w) w) w

/-- view_View_Know -/
def S_view_View_Know (a0 a1 a2 : Value) (K : KV) : World → Prop := fun w =>
 CP Try.prog Fn.view_View_is [a0, a1] (fun x1 w =>
 notW x1 (fun x2 w =>
 condP x2 (fun w => K (Value.int .i64 2) w) (fun w => nilW a0 (fun x3 w =>
 addW 0 x3 (fun x4 w =>
 load1W x4 (fun x5 w =>
 idxW 2 x5 a1 (fun x6 w =>
 loadNW 2 x6 (fun x7 w =>
 newW #[(Value.int .u64 0), (Value.bool false)] (fun x8 w =>
 storeW 2 x8 x7 (fun _ w =>
 addW 1 x8 (fun x10 w =>
 load1W x10 (fun x11 w =>
 condP x11 (fun w => addW 0 x8 (fun x12 w =>
 load1W x12 (fun x13 w =>
 binIntW .neq x13 a2 (fun x14 w =>
 condP x14 (fun w => K (Value.int .i64 14) w) (fun w => K (Value.int .i64 0) w) w) w) w) w) (fun w => nilW a0 (fun x15 w =>
 addW 0 x15 (fun x16 w =>
 load1W x16 (fun x17 w =>
 buildW [(Value.int .u64 0), (Value.bool false)] [(0, 1, a2), (1, 1, (Value.bool true))] (fun x18 w =>
 idxW 2 x17 a1 (fun x19 w =>
 storeW 2 x19 x18 (fun _ w =>
 nilW a0 (fun x21 w =>
 addW 1 x21 (fun x22 w =>
 load1W x22 (fun x23 w =>
 buildSliceW [(Value.int .i64 0)] 1 [(0, 1, a1)] (fun x24 w =>
 appendW 1 8 x23 x24 (fun x25 w =>
 nilW a0 (fun x26 w =>
 addW 1 x26 (fun x27 w =>
 storeW 1 x27 x25 (fun _ w =>
 K (Value.int .i64 0) w) w) w) w) w) w) w) w) w) w) w) w) w) w) w) w) w) w) w) w) w) w) w) w) w) w) w) w

/-- view_View_Write -/
def S_view_View_Write (a0 a1 a2 : Value) (K : KV) : World → Prop := fun w =>
 CP Try.prog Fn.view_View_is [a0, a1] (fun x1 w =>
 notW x1 (fun x2 w =>
 condP x2 (fun w => K (Value.int .i64 2) w) (fun w => nilW a0 (fun x3 w =>
 addW 2 x3 (fun x4 w =>
 load1W x4 (fun x5 w =>
 CP Try.prog Fn.levels_Levels_Put [x5, a1, a2] (fun x6 w =>
 K x6 w) w) w) w) w) w) w) w

/-- view_View_Known -/
def S_view_View_Known (a0 : Value) (K : KV) : World → Prop := fun w =>
 nilW a0 (fun x1 w =>
 addW 1 x1 (fun x2 w =>
 load1W x2 (fun x3 w =>
 lenW x3 (fun x4 w =>
 makeSliceW 16 [(Value.int .i64 0), (Value.int .u64 0)] (Value.int .i64 0) x4 (fun x5 w =>
 nilW a0 (fun x6 w =>
 addW 1 x6 (fun x7 w =>
 load1W x7 (fun x8 w =>
 lenW x8 (fun x9 w =>
 loopW2 x5 (Value.int .i64 0) (fun J1 x10 x11 w =>
 binIntW .lss x11 x9 (fun x12 w =>
 condP x12 (fun w => idxW 1 x8 x11 (fun x13 w =>
 load1W x13 (fun x14 w =>
 nilW a0 (fun x15 w =>
 addW 0 x15 (fun x16 w =>
 load1W x16 (fun x17 w =>
 idxW 2 x17 x14 (fun x18 w =>
 addW 0 x18 (fun x19 w =>
 load1W x19 (fun x20 w =>
 buildW [(Value.int .i64 0), (Value.int .u64 0)] [(0, 1, x14), (1, 1, x20)] (fun x21 w =>
 buildSliceW [(Value.int .i64 0), (Value.int .u64 0)] 1 [(0, 2, x21)] (fun x22 w =>
 appendW 2 16 x10 x22 (fun x23 w =>
 binIntW .add x11 (Value.int .i64 1) (fun x24 w =>
 J1 x23 x24 w) w) w) w) w) w) w) w) w) w) w) w) w) (fun w => K x10 w) w) w) w) w) w) w) w) w) w) w) w) w

/-- view_Whole -/
def S_view_Whole (a0 a1 : Value) (K : KV) : World → Prop := fun w =>
 lenW a0 (fun x1 w =>
 CP Try.prog Fn.view_New [x1, a1] (fun x2 w =>
 loopW1 (Value.int .i64 1) (fun J1 x3 w =>
 CP Try.prog Fn.view_View_Size [x2] (fun x4 w =>
 binIntW .lss x3 x4 (fun x5 w =>
 condP x5 (fun w => lenW a0 (fun x6 w =>
 binIntW .lss x3 x6 (fun x7 w =>
 joinW1 (fun x8 w =>
 CP Try.prog Fn.view_View_Know [x2, x3, x8] (fun x9 w =>
 binIntW .add x3 (Value.int .i64 1) (fun x10 w =>
 J1 x10 w) w) w) (fun j1 w =>
 condP x7 (fun w => idxW 1 a0 x3 (fun x11 w =>
 load1W x11 (fun x12 w =>
 j1 x12 w) w) w) (fun w => j1 (Value.int .u64 0) w) w) w) w) w) (fun w => K x2 w) w) w) w) w) w) w

/-- view_View_Size -/
def S_view_View_Size (a0 : Value) (K : KV) : World → Prop := fun w =>
 nilW a0 (fun x1 w =>
 addW 0 x1 (fun x2 w =>
 load1W x2 (fun x3 w =>
 lenW x3 (fun x4 w =>
 K x4 w) w) w) w) w

/-- book_Within -/
def S_book_Within (a0 a1 a2 : Value) (K : KV) : World → Prop := fun w =>
 binIntW .sub a2 a1 (fun x1 w =>
 binIntW .add x1 (Value.int .i64 1) (fun x2 w =>
 binIntW .rem a0 x2 (fun x3 w =>
 binIntW .lss x3 (Value.int .i64 0) (fun x4 w =>
 joinW1 (fun x5 w =>
 binIntW .add a1 x5 (fun x6 w =>
 K x6 w) w) (fun j1 w =>
 condP x4 (fun w => binIntW .add x3 a2 (fun x7 w =>
 binIntW .sub x7 a1 (fun x8 w =>
 binIntW .add x8 (Value.int .i64 1) (fun x9 w =>
 j1 x9 w) w) w) w) (fun w => j1 x3 w) w) w) w) w) w) w

/-- ref7_Place -/
def S_ref7_Place (a0 a1 : Value) (K : KV) : World → Prop := fun w =>
 loopW1 (Value.int .i64 0) (fun J1 x1 w =>
 lenW a0 (fun x2 w =>
 binIntW .lss x1 x2 (fun x3 w =>
 condP x3 (fun w => idxW 2 a0 x1 (fun x4 w =>
 addW 0 x4 (fun x5 w =>
 load1W x5 (fun x6 w =>
 binIntW .eql x6 a1 (fun x7 w =>
 condP x7 (fun w => K x1 w) (fun w => binIntW .add x1 (Value.int .i64 1) (fun x8 w =>
 J1 x8 w) w) w) w) w) w) w) (fun w => K (Value.int .i64 (-1)) w) w) w) w) w

/-- book_Same_api_Cell -/
def S_book_Same_api_Cell (a0 a1 : Value) (K : KV) : World → Prop := fun w =>
 lenW a0 (fun x1 w =>
 lenW a1 (fun x2 w =>
 binIntW .neq x1 x2 (fun x3 w =>
 condP x3 (fun w => K (Value.bool false) w) (fun w => loopW1 (Value.int .i64 0) (fun J1 x4 w =>
 lenW a0 (fun x5 w =>
 binIntW .lss x4 x5 (fun x6 w =>
 condP x6 (fun w => drewW (fun w => idxW 2 a0 x4 (fun x7 w =>
 loadNW 2 x7 (fun x8 w =>
 idxW 2 a1 x4 (fun x9 w =>
 loadNW 2 x9 (fun x10 w =>
 eqAggW [.i .i64, .i .u64] .neq x8 x10 (fun x11 w =>
 condP x11 (fun w => K (Value.bool false) w) (fun w => binIntW .add x4 (Value.int .i64 1) (fun x12 w =>
 J1 x12 w) w) w) w) w) w) w) w) w) (fun w => K (Value.bool true) w) w) w) w) w) w) w) w) w

/-- view_View_Open -/
def S_view_View_Open (a0 : Value) (K : KV) : World → Prop := fun w =>
 nilW a0 (fun x1 w =>
 addW 2 x1 (fun x2 w =>
 load1W x2 (fun x3 w =>
 CP Try.prog Fn.levels_Levels_Open [x3] (fun x4 w =>
 K x4 w) w) w) w) w

/-- view_View_Drop -/
def S_view_View_Drop (a0 : Value) (K : KV) : World → Prop := fun w =>
 nilW a0 (fun x1 w =>
 addW 2 x1 (fun x2 w =>
 load1W x2 (fun x3 w =>
 CP Try.prog Fn.levels_Levels_Drop [x3] (fun x4 w =>
 K x4 w) w) w) w) w

/-- view_View_Keep -/
def S_view_View_Keep (a0 : Value) (K : KV) : World → Prop := fun w =>
 nilW a0 (fun x1 w =>
 addW 2 x1 (fun x2 w =>
 load1W x2 (fun x3 w =>
 CP Try.prog Fn.levels_Levels_Keep [x3] (fun x4 w =>
 K x4 w) w) w) w) w

/-- ref7_NewView -/
def S_ref7_NewView (a0 a1 : Value) (K : KV) : World → Prop := fun w =>
 CP Try.prog Fn.ref1_Held [a0, (Value.int .i64 32), (Value.int .i64 256)] (fun x1 w =>
 CP Try.prog Fn.ref7_NewLevels [a1] (fun x2 w =>
 buildW [(Value.int .i64 0), (Value.slice none 0 0), (Value.pointer none), (Value.int .i64 0)] [(0, 1, x1), (2, 1, x2)] (fun x3 w =>
 boxW x3 (fun x4 w =>
 K x4 w) w) w) w) w

/-- law10_do -/
def S_law10_do (a0 a1 a2 a3 : Value) (K : KV) : World → Prop := fun w =>
 boxW a2 (fun x1 w =>
 addW 1 x1 (fun x2 w =>
 load1W x2 (fun x3 w =>
 CP Try.prog Fn.law10_place [x3, a3] (fun x4 w =>
 addW 0 x1 (fun x5 w =>
 load1W x5 (fun x6 w =>
 CP Try.prog Fn.book_Within [x6, (Value.int .i64 0), (Value.int .i64 12)] (fun x7 w =>
 binIntW .eql x7 (Value.int .i64 0) (fun x8 w =>
 joinW1 (fun x9 w =>
 condP x9 (fun w => drewW (fun w => addW 2 x1 (fun x10 w =>
 load1W x10 (fun x11 w =>
 binIntW .rem x11 (Value.int .u64 3) (fun x12 w =>
 addW 2 x1 (fun x13 w =>
 load1W x13 (fun x14 w =>
 binIntW .rem x14 (Value.int .u64 3) (fun x15 w =>
 CP Try.prog Fn.view_View_Know [a0, x4, x12] (fun x16 w =>
 andP (fun w => andP (fun w => load1W x13 (fun v w => eqP v x14 w) w) (fun w => andP (fun w => trueP w) (fun w => trueP w) w) w) (fun w =>
 CP Try.prog Fn.ref7_View_Know [a1, x4, x15] (fun x17 w =>
 andP (fun w => andP (fun w => trueP w) (fun w => trueP w) w) (fun w =>
 binIntW .eql x16 x17 (fun x18 w =>
 K x18 w) w) w) w) w) w) w) w) w) w) w) w) w) (fun w => binIntW .eql x7 (Value.int .i64 1) (fun x19 w =>
 condP x19 (fun w => CP Try.prog Fn.ref7_View_In [a1, x4] (fun x20 w =>
 joinW1 (fun x21 w =>
 addW 2 x1 (fun x22 w =>
 load1W x22 (fun x23 w =>
 CP Try.prog Fn.view_View_Write [a0, x4, x23] (fun x24 w =>
 binIntW .eql x24 x21 (fun x25 w =>
 K x25 w) w) w) w) w) (fun j2 w =>
 condP x20 (fun w => drewW (fun w => nilW a1 (fun x26 w =>
 addW 2 x26 (fun x27 w =>
 load1W x27 (fun x28 w =>
 addW 2 x1 (fun x29 w =>
 load1W x29 (fun x30 w =>
 CP Try.prog Fn.ref7_Levels_Put [x28, x4, x30] (fun x31 w =>
 andP (fun w => andP (fun w => trueP w) (fun w => andP (fun w => trueP w) (fun w => trueP w) w) w) (fun w =>
 j2 x31 w) w) w) w) w) w) w) w) w) (fun w => j2 (Value.int .i64 2) w) w) w) w) (fun w => binIntW .eql x7 (Value.int .i64 2) (fun x32 w =>
 condP x32 (fun w => drewW (fun w => nilW a1 (fun x33 w =>
 addW 2 x33 (fun x34 w =>
 load1W x34 (fun x35 w =>
 CP Try.prog Fn.view_View_Open [a0] (fun x36 w =>
 andP (fun w => andP (fun w => load1W x34 (fun v w => eqP v x35 w) w) (fun w => trueP w) w) (fun w =>
 CP Try.prog Fn.ref7_Levels_Open [x35] (fun x37 w =>
 andP (fun w => andP (fun w => trueP w) (fun w => trueP w) w) (fun w =>
 binIntW .eql x36 x37 (fun x38 w =>
 K x38 w) w) w) w) w) w) w) w) w) w) (fun w => binIntW .eql x7 (Value.int .i64 3) (fun x39 w =>
 condP x39 (fun w => drewW (fun w => nilW a1 (fun x40 w =>
 addW 2 x40 (fun x41 w =>
 load1W x41 (fun x42 w =>
 CP Try.prog Fn.view_View_Keep [a0] (fun x43 w =>
 andP (fun w => andP (fun w => load1W x41 (fun v w => eqP v x42 w) w) (fun w => trueP w) w) (fun w =>
 CP Try.prog Fn.ref7_Levels_Keep [x42] (fun x44 w =>
 andP (fun w => andP (fun w => trueP w) (fun w => trueP w) w) (fun w =>
 binIntW .eql x43 x44 (fun x45 w =>
 K x45 w) w) w) w) w) w) w) w) w) w) (fun w => binIntW .eql x7 (Value.int .i64 4) (fun x46 w =>
 condP x46 (fun w => drewW (fun w => nilW a1 (fun x47 w =>
 addW 2 x47 (fun x48 w =>
 load1W x48 (fun x49 w =>
 CP Try.prog Fn.view_View_Drop [a0] (fun x50 w =>
 andP (fun w => andP (fun w => load1W x48 (fun v w => eqP v x49 w) w) (fun w => trueP w) w) (fun w =>
 CP Try.prog Fn.ref7_Levels_Drop [x49] (fun x51 w =>
 andP (fun w => andP (fun w => trueP w) (fun w => trueP w) w) (fun w =>
 binIntW .eql x50 x51 (fun x52 w =>
 K x52 w) w) w) w) w) w) w) w) w) w) (fun w => binIntW .eql x7 (Value.int .i64 5) (fun x53 w =>
 condP x53 (fun w => addW 1 x1 (fun x54 w =>
 load1W x54 (fun x55 w =>
 CP Try.prog Fn.view_View_Free [a0, x55] (fun x56 w =>
 drewW (fun w => nilW a1 (fun x57 w =>
 addW 2 x57 (fun x58 w =>
 load1W x58 (fun x59 w =>
 addW 1 x1 (fun x60 w =>
 load1W x60 (fun x61 w =>
 CP Try.prog Fn.ref7_Levels_Free [x59, x61] (fun x62 w =>
 andP (fun w => andP (fun w => trueP w) (fun w => andP (fun w => trueP w) (fun w => trueP w) w) w) (fun w =>
 K (Value.bool true) w) w) w) w) w) w) w) w) w) w) w) w) (fun w => binIntW .eql x7 (Value.int .i64 6) (fun x63 w =>
 condP x63 (fun w => loopW2 (Value.slice none 0 0) (Value.int .i64 0) (fun J1 x64 x65 w =>
 addW 3 x1 (fun x66 w =>
 load1W x66 (fun x67 w =>
 lenW x67 (fun x68 w =>
 binIntW .lss x65 x68 (fun x69 w =>
 gW x69 true (fun K w => K x65 w) (fun x70 w =>
 gW x69 true (fun K w => binIntW .lss x70 (Value.int .i64 5) K w) (fun x71 w =>
 pickW x69 x71 (Value.bool false) (fun x72 w =>
 condP x72 (fun w => drewW (fun w => addW 3 x1 (fun x73 w =>
 load1W x73 (fun x74 w =>
 idxW 2 x74 x65 (fun x75 w =>
 addW 0 x75 (fun x76 w =>
 load1W x76 (fun x77 w =>
 binIntW .add a3 x65 (fun x78 w =>
 addW 3 x1 (fun x79 w =>
 load1W x79 (fun x80 w =>
 idxW 2 x80 x65 (fun x81 w =>
 addW 1 x81 (fun x82 w =>
 load1W x82 (fun x83 w =>
 CP Try.prog Fn.law10_place [x77, x78] (fun x84 w =>
 andP (fun w => andP (fun w => load1W x82 (fun v w => eqP v x83 w) w) (fun w => andP (fun w => load1W x79 (fun v w => eqP v x80 w) w) (fun w => andP (fun w => trueP w) (fun w => andP (fun w => trueP w) (fun w => trueP w) w) w) w) w) (fun w =>
 buildW [(Value.int .i64 0), (Value.int .u64 0)] [(0, 1, x84), (1, 1, x83)] (fun x85 w =>
 buildSliceW [(Value.int .i64 0), (Value.int .u64 0)] 1 [(0, 2, x85)] (fun x86 w =>
 andP (fun w => andP (fun w => trueP w) (fun w => andP (fun w => trueP w) (fun w => trueP w) w) w) (fun w =>
 appendW 2 16 x64 x86 (fun x87 w =>
 andP (fun w => trueP w) (fun w =>
 binIntW .add x65 (Value.int .i64 1) (fun x88 w =>
 J1 x87 x88 w) w) w) w) w) w) w) w) w) w) w) w) w) w) w) w) w) w) w) w) w) (fun w => CP Try.prog Fn.view_View_Take [a0, x64] (fun x89 w =>
 CP Try.prog Fn.ref7_View_Take [a1, x64] (fun x90 w =>
 binIntW .eql x89 x90 (fun x91 w =>
 K x91 w) w) w) w) w) w) w) w) w) w) w) w) w) (fun w => CP Try.prog Fn.view_View_Read [a0, x4] (fun x92 w =>
 extractW 0 x92 (fun x93 w =>
 extractW 1 x92 (fun x94 w =>
 CP Try.prog Fn.ref7_View_Read [a1, x4] (fun x95 w =>
 extractW 0 x95 (fun x96 w =>
 extractW 1 x95 (fun x97 w =>
 binIntW .eql x93 x96 (fun x98 w =>
 gW x98 true (fun K w => K x94 w) (fun x99 w =>
 gW x98 true (fun K w => K x97 w) (fun x100 w =>
 gW x98 true (fun K w => binIntW .eql x99 x100 K w) (fun x101 w =>
 pickW x98 x101 (Value.bool false) (fun x102 w =>
 K x102 w) w) w) w) w) w) w) w) w) w) w) w) w) w) w) w) w) w) w) w) w) w) w) w) w) (fun j1 w =>
 condP x8 (fun w => j1 x8 w) (fun w => binIntW .eql x7 (Value.int .i64 7) (fun x103 w =>
 j1 x103 w) w) w) w) w) w) w) w) w) w) w) w

/-- law10_same -/
def S_law10_same (a0 a1 : Value) (K : KV) : World → Prop := fun w =>
 nilW a1 (fun x1 w =>
 addW 2 x1 (fun x2 w =>
 load1W x2 (fun x3 w =>
 CP Try.prog Fn.ref7_Levels_Whole [x3] (fun x4 w =>
 newW #[(Value.slice none 0 0), (Value.slice none 0 0)] (fun x5 w =>
 storeW 2 x5 x4 (fun _ w =>
 drewW (fun w => nilW a1 (fun x7 w =>
 addW 1 x7 (fun x8 w =>
 load1W x8 (fun x9 w =>
 CP Try.prog Fn.view_View_Known [a0] (fun x10 w =>
 andP (fun w => andP (fun w => load1W x8 (fun v w => eqP v x9 w) w) (fun w => trueP w) w) (fun w =>
 CP Try.prog Fn.book_Same_api_Cell [x10, x9] (fun x11 w =>
 andP (fun w => andP (fun w => trueP w) (fun w => trueP w) w) (fun w =>
 gW x11 true (fun K w => K a0 w) (fun x12 w =>
 gW x11 true (fun K w => addW 0 x5 K w) (fun x13 w =>
 gW x11 true (fun K w => load1W x13 K w) (fun x14 w =>
 gW x11 true (fun K w => CP Try.prog Fn.view_View_Cells [x12] K w) (fun x15 w =>
 andP (fun w => andP (fun w => gW x11 true (fun K w => load1W x13 K w) (fun v w => eqP v x14 w) w) (fun w => trueP w) w) (fun w =>
 gW x11 true (fun K w => CP Try.prog Fn.book_Same_api_Cell [x15, x14] K w) (fun x16 w =>
 andP (fun w => andP (fun w => trueP w) (fun w => trueP w) w) (fun w =>
 pickW x11 x16 (Value.bool false) (fun x17 w =>
 gW x17 true (fun K w => K a0 w) (fun x18 w =>
 gW x17 true (fun K w => addW 1 x5 K w) (fun x19 w =>
 gW x17 true (fun K w => load1W x19 K w) (fun x20 w =>
 gW x17 true (fun K w => CP Try.prog Fn.view_View_Frees [x18] K w) (fun x21 w =>
 andP (fun w => andP (fun w => gW x17 true (fun K w => load1W x19 K w) (fun v w => eqP v x20 w) w) (fun w => trueP w) w) (fun w =>
 gW x17 true (fun K w => CP Try.prog Fn.book_Same_int [x21, x20] K w) (fun x22 w =>
 andP (fun w => andP (fun w => trueP w) (fun w => trueP w) w) (fun w =>
 pickW x17 x22 (Value.bool false) (fun x23 w =>
 gW x23 true (fun K w => K a0 w) (fun x24 w =>
 gW x23 true (fun K w => K a1 w) (fun x25 w =>
 gW x23 true (fun K w => nilW x25 K w) (fun x26 w =>
 gW x23 true (fun K w => addW 3 x26 K w) (fun x27 w =>
 gW x23 true (fun K w => load1W x27 K w) (fun x28 w =>
 gW x23 true (fun K w => CP Try.prog Fn.view_View_Need [x24] K w) (fun x29 w =>
 andP (fun w => andP (fun w => gW x23 true (fun K w => load1W x27 K w) (fun v w => eqP v x28 w) w) (fun w => trueP w) w) (fun w =>
 gW x23 true (fun K w => binIntW .eql x29 x28 K w) (fun x30 w =>
 pickW x23 x30 (Value.bool false) (fun x31 w =>
 gW x31 true (fun K w => K a0 w) (fun x32 w =>
 gW x31 true (fun K w => K a1 w) (fun x33 w =>
 gW x31 true (fun K w => nilW x33 K w) (fun x34 w =>
 gW x31 true (fun K w => addW 0 x34 K w) (fun x35 w =>
 gW x31 true (fun K w => load1W x35 K w) (fun x36 w =>
 gW x31 true (fun K w => CP Try.prog Fn.view_View_Size [x32] K w) (fun x37 w =>
 andP (fun w => andP (fun w => gW x31 true (fun K w => load1W x35 K w) (fun v w => eqP v x36 w) w) (fun w => andP (fun w => trueP w) (fun w => trueP w) w) w) (fun w =>
 gW x31 true (fun K w => binIntW .eql x37 x36 K w) (fun x38 w =>
 pickW x31 x38 (Value.bool false) (fun x39 w =>
 gW x39 true (fun K w => K a0 w) (fun x40 w =>
 gW x39 true (fun K w => K a1 w) (fun x41 w =>
 gW x39 true (fun K w => nilW x41 K w) (fun x42 w =>
 gW x39 true (fun K w => addW 2 x42 K w) (fun x43 w =>
 gW x39 true (fun K w => load1W x43 K w) (fun x44 w =>
 gW x39 true (fun K w => nilW x44 K w) (fun x45 w =>
 gW x39 true (fun K w => addW 1 x45 K w) (fun x46 w =>
 gW x39 true (fun K w => load1W x46 K w) (fun x47 w =>
 gW x39 true (fun K w => lenW x47 K w) (fun x48 w =>
 gW x39 true (fun K w => CP Try.prog Fn.view_View_Depth [x40] K w) (fun x49 w =>
 andP (fun w => andP (fun w => gW x39 true (fun K w => load1W x46 K w) (fun v w => eqP v x47 w) w) (fun w => andP (fun w => gW x39 true (fun K w => load1W x43 K w) (fun v w => eqP v x44 w) w) (fun w => andP (fun w => trueP w) (fun w => trueP w) w) w) w) (fun w =>
 gW x39 true (fun K w => binIntW .eql x49 x48 K w) (fun x50 w =>
 pickW x39 x50 (Value.bool false) (fun x51 w =>
 gW x51 true (fun K w => K a0 w) (fun x52 w =>
 gW x51 true (fun K w => K a1 w) (fun x53 w =>
 gW x51 true (fun K w => nilW x53 K w) (fun x54 w =>
 gW x51 true (fun K w => addW 2 x54 K w) (fun x55 w =>
 gW x51 true (fun K w => load1W x55 K w) (fun x56 w =>
 gW x51 true (fun K w => CP Try.prog Fn.view_View_Room [x52] K w) (fun x57 w =>
 andP (fun w => andP (fun w => gW x51 true (fun K w => load1W x55 K w) (fun v w => eqP v x56 w) w) (fun w => andP (fun w => trueP w) (fun w => andP (fun w => trueP w) (fun w => trueP w) w) w) w) (fun w =>
 gW x51 true (fun K w => CP Try.prog Fn.ref7_Levels_Room [x56] K w) (fun x58 w =>
 andP (fun w => andP (fun w => trueP w) (fun w => trueP w) w) (fun w =>
 gW x51 true (fun K w => binIntW .eql x57 x58 K w) (fun x59 w =>
 pickW x51 x59 (Value.bool false) (fun x60 w =>
 K x60 w) w) w) w) w) w) w) w) w) w) w) w) w) w) w) w) w) w) w) w) w) w) w) w) w) w) w) w) w) w) w) w) w) w) w) w) w) w) w) w) w) w) w) w) w) w) w) w) w) w) w) w) w) w) w) w) w) w) w) w) w) w) w) w) w) w) w) w) w) w) w) w) w

/-- ref7_Whole -/
def S_ref7_Whole (a0 a1 : Value) (K : KV) : World → Prop := fun w =>
 lenW a0 (fun x1 w =>
 CP Try.prog Fn.ref7_NewView [x1, a1] (fun x2 w =>
 loopW1 (Value.int .i64 1) (fun J1 x3 w =>
 nilW x2 (fun x4 w =>
 addW 0 x4 (fun x5 w =>
 load1W x5 (fun x6 w =>
 binIntW .lss x3 x6 (fun x7 w =>
 condP x7 (fun w => lenW a0 (fun x8 w =>
 binIntW .lss x3 x8 (fun x9 w =>
 joinW1 (fun x10 w =>
 nilW x2 (fun x11 w =>
 addW 1 x11 (fun x12 w =>
 load1W x12 (fun x13 w =>
 buildW [(Value.int .i64 0), (Value.int .u64 0)] [(0, 1, x3), (1, 1, x10)] (fun x14 w =>
 buildSliceW [(Value.int .i64 0), (Value.int .u64 0)] 1 [(0, 2, x14)] (fun x15 w =>
 appendW 2 16 x13 x15 (fun x16 w =>
 nilW x2 (fun x17 w =>
 addW 1 x17 (fun x18 w =>
 storeW 1 x18 x16 (fun _ w =>
 binIntW .add x3 (Value.int .i64 1) (fun x20 w =>
 J1 x20 w) w) w) w) w) w) w) w) w) w) w) (fun j1 w =>
 condP x9 (fun w => idxW 1 a0 x3 (fun x21 w =>
 load1W x21 (fun x22 w =>
 j1 x22 w) w) w) (fun w => j1 (Value.int .u64 0) w) w) w) w) w) (fun w => K x2 w) w) w) w) w) w) w) w) w

/-- writes_New -/
def S_writes_New (a0 : Value) (K : KV) : World → Prop := fun w =>
 minW a0 [(Value.int .i64 96)] (fun x1 w =>
 maxW (Value.int .i64 0) [x1] (fun x2 w =>
 buildW [(Value.int .i64 0), (Value.slice none 0 0)] [(0, 1, x2)] (fun x3 w =>
 boxW x3 (fun x4 w =>
 K x4 w) w) w) w) w

/-- writes_Writes_Put -/
def S_writes_Writes_Put (a0 a1 a2 : Value) (K : KV) : World → Prop := fun w =>
 binIntW .lss a1 (Value.int .i64 1) (fun x1 w =>
 gW x1 false (fun K w => K a1 w) (fun x2 w =>
 gW x1 false (fun K w => binIntW .geq x2 (Value.int .i64 256) K w) (fun x3 w =>
 pickW x1 (Value.bool true) x3 (fun x4 w =>
 condP x4 (fun w => K (Value.int .i64 2) w) (fun w => CP Try.prog Fn.writes_Writes_find [a0, a1] (fun x5 w =>
 binIntW .geq x5 (Value.int .i64 0) (fun x6 w =>
 condP x6 (fun w => nilW a0 (fun x7 w =>
 addW 1 x7 (fun x8 w =>
 load1W x8 (fun x9 w =>
 idxW 2 x9 x5 (fun x10 w =>
 addW 1 x10 (fun x11 w =>
 storeW 1 x11 a2 (fun _ w =>
 K (Value.int .i64 0) w) w) w) w) w) w) w) (fun w => drewW (fun w => nilW a0 (fun x13 w =>
 addW 1 x13 (fun x14 w =>
 load1W x14 (fun x15 w =>
 lenW x15 (fun x16 w =>
 nilW a0 (fun x17 w =>
 addW 0 x17 (fun x18 w =>
 load1W x18 (fun x19 w =>
 binIntW .geq x16 x19 (fun x20 w =>
 condP x20 (fun w => K (Value.int .i64 5) w) (fun w => nilW a0 (fun x21 w =>
 addW 1 x21 (fun x22 w =>
 load1W x22 (fun x23 w =>
 buildW [(Value.int .i64 0), (Value.int .u64 0)] [(0, 1, a1), (1, 1, a2)] (fun x24 w =>
 buildSliceW [(Value.int .i64 0), (Value.int .u64 0)] 1 [(0, 2, x24)] (fun x25 w =>
 appendW 2 16 x23 x25 (fun x26 w =>
 nilW a0 (fun x27 w =>
 addW 1 x27 (fun x28 w =>
 storeW 1 x28 x26 (fun _ w =>
 K (Value.int .i64 0) w) w) w) w) w) w) w) w) w) w) w) w) w) w) w) w) w) w) w) w) w) w) w) w) w) w) w) w

/-- writes_Writes_All -/
def S_writes_Writes_All (a0 : Value) (K : KV) : World → Prop := fun w =>
 nilW a0 (fun x1 w =>
 addW 1 x1 (fun x2 w =>
 load1W x2 (fun x3 w =>
 CP Try.prog Fn.slices_Clone_api_Cell_api_Cell [x3] (fun x4 w =>
 K x4 w) w) w) w) w

/-- writes_Writes_Get -/
def S_writes_Writes_Get (a0 a1 : Value) (K : KV) : World → Prop := fun w =>
 CP Try.prog Fn.writes_Writes_find [a0, a1] (fun x1 w =>
 binIntW .geq x1 (Value.int .i64 0) (fun x2 w =>
 condP x2 (fun w => nilW a0 (fun x3 w =>
 addW 1 x3 (fun x4 w =>
 load1W x4 (fun x5 w =>
 idxW 2 x5 x1 (fun x6 w =>
 addW 1 x6 (fun x7 w =>
 load1W x7 (fun x8 w =>
 K (Value.tuple #[x8, (Value.bool true)]) w) w) w) w) w) w) w) (fun w => K (Value.tuple #[(Value.int .u64 0), (Value.bool false)]) w) w) w) w

/-- writes_Stripes -/
def S_writes_Stripes (a0 a1 a2 : Value) (K : KV) : World → Prop := fun w =>
 lenW a0 (fun x1 w =>
 loopW2 (Value.slice none 0 0) (Value.int .i64 0) (fun J1 x2 x3 w =>
 binIntW .lss x3 x1 (fun x4 w =>
 condP x4 (fun w => idxW 2 a0 x3 (fun x5 w =>
 loadNW 2 x5 (fun x6 w =>
 newW #[(Value.int .i64 0), (Value.int .u64 0)] (fun x7 w =>
 storeW 2 x7 x6 (fun _ w =>
 addW 0 x7 (fun x9 w =>
 load1W x9 (fun x10 w =>
 CP Try.prog Fn.stripe_Of [x10, a1, a2] (fun x11 w =>
 binIntW .geq x11 (Value.int .i64 0) (fun x12 w =>
 joinW1 (fun x13 w =>
 binIntW .add x3 (Value.int .i64 1) (fun x14 w =>
 J1 x13 x14 w) w) (fun j1 w =>
 condP x12 (fun w => buildSliceW [(Value.int .i64 0)] 1 [(0, 1, x11)] (fun x15 w =>
 appendW 1 8 x2 x15 (fun x16 w =>
 j1 x16 w) w) w) (fun w => j1 x2 w) w) w) w) w) w) w) w) w) w) w) (fun w => CP Try.prog Fn.slices_Sort_int_int [x2] (fun x17 w =>
 CP Try.prog Fn.slices_Compact_int_int [x2] (fun x18 w =>
 K x18 w) w) w) w) w) w) w

/-- writes_Writes_Len -/
def S_writes_Writes_Len (a0 : Value) (K : KV) : World → Prop := fun w =>
 nilW a0 (fun x1 w =>
 addW 1 x1 (fun x2 w =>
 load1W x2 (fun x3 w =>
 lenW x3 (fun x4 w =>
 K x4 w) w) w) w) w

/-- book_Same_int -/
def S_book_Same_int (a0 a1 : Value) (K : KV) : World → Prop := fun w =>
 lenW a0 (fun x1 w =>
 lenW a1 (fun x2 w =>
 binIntW .neq x1 x2 (fun x3 w =>
 condP x3 (fun w => K (Value.bool false) w) (fun w => loopW1 (Value.int .i64 0) (fun J1 x4 w =>
 lenW a0 (fun x5 w =>
 binIntW .lss x4 x5 (fun x6 w =>
 condP x6 (fun w => drewW (fun w => idxW 1 a0 x4 (fun x7 w =>
 load1W x7 (fun x8 w =>
 idxW 1 a1 x4 (fun x9 w =>
 load1W x9 (fun x10 w =>
 binIntW .neq x8 x10 (fun x11 w =>
 condP x11 (fun w => K (Value.bool false) w) (fun w => binIntW .add x4 (Value.int .i64 1) (fun x12 w =>
 J1 x12 w) w) w) w) w) w) w) w) w) (fun w => K (Value.bool true) w) w) w) w) w) w) w) w) w

/-- ref7_Stripes -/
def S_ref7_Stripes (a0 a1 a2 : Value) (K : KV) : World → Prop := fun w =>
 newW #[(Value.bool false), (Value.bool false), (Value.bool false), (Value.bool false), (Value.bool false), (Value.bool false), (Value.bool false), (Value.bool false), (Value.bool false), (Value.bool false), (Value.bool false), (Value.bool false), (Value.bool false), (Value.bool false), (Value.bool false), (Value.bool false)] (fun x1 w =>
 loopW1 (Value.int .i64 0) (fun J1 x2 w =>
 lenW a0 (fun x3 w =>
 binIntW .lss x2 x3 (fun x4 w =>
 condP x4 (fun w => idxW 2 a0 x2 (fun x5 w =>
 addW 0 x5 (fun x6 w =>
 load1W x6 (fun x7 w =>
 CP Try.prog Fn.ref1_Of [x7, a1, a2] (fun x8 w =>
 binIntW .geq x8 (Value.int .i64 0) (fun x9 w =>
 joinW0 (fun  w =>
 binIntW .add x2 (Value.int .i64 1) (fun x10 w =>
 J1 x10 w) w) (fun j1 w =>
 condP x9 (fun w => idxArrW 16 1 x1 x8 (fun x11 w =>
 storeW 1 x11 (Value.bool true) (fun _ w =>
 j1  w) w) w) (fun w => j1  w) w) w) w) w) w) w) w) (fun w => loopW2 (Value.slice none 0 0) (Value.int .i64 0) (fun J2 x13 x14 w =>
 binIntW .lss x14 (Value.int .i64 16) (fun x15 w =>
 condP x15 (fun w => idxArrW 16 1 x1 x14 (fun x16 w =>
 load1W x16 (fun x17 w =>
 joinW1 (fun x18 w =>
 binIntW .add x14 (Value.int .i64 1) (fun x19 w =>
 J2 x18 x19 w) w) (fun j2 w =>
 condP x17 (fun w => buildSliceW [(Value.int .i64 0)] 1 [(0, 1, x14)] (fun x20 w =>
 appendW 1 8 x13 x20 (fun x21 w =>
 j2 x21 w) w) w) (fun w => j2 x13 w) w) w) w) w) (fun w => K x13 w) w) w) w) w) w) w) w) w

/-- book_Clamp -/
def S_book_Clamp (a0 a1 a2 : Value) (K : KV) : World → Prop := fun w =>
 binIntW .lss a0 a1 (fun x1 w =>
 condP x1 (fun w => K a1 w) (fun w => binIntW .gtr a0 a2 (fun x2 w =>
 condP x2 (fun w => K a2 w) (fun w => K a0 w) w) w) w) w

/-- law8_near -/
def S_law8_near (a0 a1 : Value) (K : KV) : World → Prop := fun w =>
 boxW a0 (fun x1 w =>
 newW #[(Value.int .i64 0), (Value.int .u64 0)] (fun x2 w =>
 binIntW .rem a1 (Value.int .i64 7) (fun x3 w =>
 binIntW .eql x3 (Value.int .i64 6) (fun x4 w =>
 condP x4 (fun w => loadNW 2 x1 (fun x5 w =>
 storeW 2 x2 x5 (fun _ w =>
 loadNW 2 x2 (fun x7 w =>
 K x7 w) w) w) w) (fun w => drewW (fun w => addW 0 x1 (fun x8 w =>
 load1W x8 (fun x9 w =>
 addW 1 x1 (fun x10 w =>
 load1W x10 (fun x11 w =>
 CP Try.prog Fn.book_Within [x9, (Value.int .i64 1), (Value.int .i64 30)] (fun x12 w =>
 andP (fun w => andP (fun w => load1W x10 (fun v w => eqP v x11 w) w) (fun w => andP (fun w => trueP w) (fun w => trueP w) w) w) (fun w =>
 buildW [(Value.int .i64 0), (Value.int .u64 0)] [(0, 1, x12), (1, 1, x11)] (fun x13 w =>
 storeW 2 x2 x13 (fun _ w =>
 andP (fun w => andP (fun w => trueP w) (fun w => trueP w) w) (fun w =>
 loadNW 2 x2 (fun x15 w =>
 K x15 w) w) w) w) w) w) w) w) w) w) w) w) w) w) w) w) w

/-- law8_take -/
def S_law8_take (a0 a1 a2 : Value) (K : KV) : World → Prop := fun w =>
 loopW2 a0 (Value.int .i64 0) (fun J1 x1 x2 w =>
 lenW a1 (fun x3 w =>
 binIntW .lss x2 x3 (fun x4 w =>
 condP x4 (fun w => idxW 2 a1 x2 (fun x5 w =>
 addW 0 x5 (fun x6 w =>
 load1W x6 (fun x7 w =>
 binIntW .lss x7 (Value.int .i64 1) (fun x8 w =>
 gW x8 false (fun K w => K a1 w) (fun x9 w =>
 gW x8 false (fun K w => K x2 w) (fun x10 w =>
 gW x8 false (fun K w => idxW 2 x9 x10 K w) (fun x11 w =>
 gW x8 false (fun K w => addW 0 x11 K w) (fun x12 w =>
 gW x8 false (fun K w => load1W x12 K w) (fun x13 w =>
 gW x8 false (fun K w => binIntW .geq x13 (Value.int .i64 256) K w) (fun x14 w =>
 pickW x8 (Value.bool true) x14 (fun x15 w =>
 condP x15 (fun w => K (Value.tuple #[a0, (Value.int .i64 2)]) w) (fun w => idxW 2 a1 x2 (fun x16 w =>
 addW 0 x16 (fun x17 w =>
 load1W x17 (fun x18 w =>
 CP Try.prog Fn.ref7_Place [x1, x18] (fun x19 w =>
 binIntW .lss x19 (Value.int .i64 0) (fun x20 w =>
 gW x20 true (fun K w => K x1 w) (fun x21 w =>
 gW x20 true (fun K w => lenW x21 K w) (fun x22 w =>
 gW x20 true (fun K w => K a2 w) (fun x23 w =>
 gW x20 true (fun K w => binIntW .geq x22 x23 K w) (fun x24 w =>
 pickW x20 x24 (Value.bool false) (fun x25 w =>
 condP x25 (fun w => K (Value.tuple #[a0, (Value.int .i64 5)]) w) (fun w => drewW (fun w => idxW 2 a1 x2 (fun x26 w =>
 addW 0 x26 (fun x27 w =>
 load1W x27 (fun x28 w =>
 idxW 2 a1 x2 (fun x29 w =>
 addW 1 x29 (fun x30 w =>
 load1W x30 (fun x31 w =>
 CP Try.prog Fn.ref7_Put [x1, x28, x31] (fun x32 w =>
 andP (fun w => andP (fun w => trueP w) (fun w => andP (fun w => trueP w) (fun w => trueP w) w) w) (fun w =>
 binIntW .add x2 (Value.int .i64 1) (fun x33 w =>
 J1 x32 x33 w) w) w) w) w) w) w) w) w) w) w) w) w) w) w) w) w) w) w) w) w) w) w) w) w) w) w) w) w) w) w) w) w) w) (fun w => K (Value.tuple #[x1, (Value.int .i64 0)]) w) w) w) w) w

/-- writes_Writes_Take -/
def S_writes_Writes_Take (a0 a1 : Value) (K : KV) : World → Prop := fun w =>
 CP Try.prog Fn.writes_Writes_All [a0] (fun x1 w =>
 lenW a1 (fun x2 w =>
 loopW1 (Value.int .i64 0) (fun J1 x3 w =>
 binIntW .lss x3 x2 (fun x4 w =>
 condP x4 (fun w => idxW 2 a1 x3 (fun x5 w =>
 loadNW 2 x5 (fun x6 w =>
 newW #[(Value.int .i64 0), (Value.int .u64 0)] (fun x7 w =>
 storeW 2 x7 x6 (fun _ w =>
 addW 0 x7 (fun x9 w =>
 load1W x9 (fun x10 w =>
 addW 1 x7 (fun x11 w =>
 load1W x11 (fun x12 w =>
 CP Try.prog Fn.writes_Writes_Put [a0, x10, x12] (fun x13 w =>
 binIntW .neq x13 (Value.int .i64 0) (fun x14 w =>
 condP x14 (fun w => nilW a0 (fun x15 w =>
 addW 1 x15 (fun x16 w =>
 storeW 1 x16 x1 (fun _ w =>
 K x13 w) w) w) w) (fun w => binIntW .add x3 (Value.int .i64 1) (fun x18 w =>
 J1 x18 w) w) w) w) w) w) w) w) w) w) w) w) w) (fun w => K (Value.int .i64 0) w) w) w) w) w) w

/-- levels_New -/
def S_levels_New (a0 : Value) (K : KV) : World → Prop := fun w =>
 minW a0 [(Value.int .i64 96)] (fun x1 w =>
 maxW (Value.int .i64 0) [x1] (fun x2 w =>
 CP Try.prog Fn.levels_fresh [] (fun x3 w =>
 buildSliceW [(Value.pointer none)] 1 [(0, 1, x3)] (fun x4 w =>
 buildW [(Value.int .i64 0), (Value.slice none 0 0)] [(0, 1, x2), (1, 1, x4)] (fun x5 w =>
 boxW x5 (fun x6 w =>
 K x6 w) w) w) w) w) w) w

/-- view_View_is -/
def S_view_View_is (a0 a1 : Value) (K : KV) : World → Prop := fun w =>
 binIntW .geq a1 (Value.int .i64 1) (fun x1 w =>
 gW x1 true (fun K w => K a1 w) (fun x2 w =>
 gW x1 true (fun K w => K a0 w) (fun x3 w =>
 gW x1 true (fun K w => nilW x3 K w) (fun x4 w =>
 gW x1 true (fun K w => addW 0 x4 K w) (fun x5 w =>
 gW x1 true (fun K w => load1W x5 K w) (fun x6 w =>
 gW x1 true (fun K w => lenW x6 K w) (fun x7 w =>
 gW x1 true (fun K w => binIntW .lss x2 x7 K w) (fun x8 w =>
 pickW x1 x8 (Value.bool false) (fun x9 w =>
 K x9 w) w) w) w) w) w) w) w) w) w

/-- levels_Levels_Get -/
def S_levels_Levels_Get (a0 a1 : Value) (K : KV) : World → Prop := fun w =>
 boxW a1 (fun x1 w =>
 newW #[(Value.int .u64 0)] (fun x2 w =>
 newW #[(Value.bool false)] (fun x3 w =>
 nilW a0 (fun x4 w =>
 addW 1 x4 (fun x5 w =>
 load1W x5 (fun x6 w =>
 CP Try.prog Fn.slices_Backward_levels_level_levels_level [x6] (fun x7 w =>
 backW Fn.slices_Backward_levels_level_levels_level_1 x7 (fun J R x8 x9 w =>
 drewW (fun w => nilW x9 (fun x10 w =>
 addW 0 x10 (fun x11 w =>
 load1W x11 (fun x12 w =>
 load1W x1 (fun x13 w =>
 CP Try.prog Fn.writes_Writes_Get [x12, x13] (fun x14 w =>
 andP (fun w => andP (fun w => trueP w) (fun w => andP (fun w => trueP w) (fun w => trueP w) w) w) (fun w =>
 extractW 0 x14 (fun x15 w =>
 extractW 1 x14 (fun x16 w =>
 condP x16 (fun w => storeW 1 x2 x15 (fun _ w =>
 storeW 1 x3 (Value.bool true) (fun _ w =>
 R w) w) w) (fun w => J w) w) w) w) w) w) w) w) w) w) w) (fun K w =>
 storeW 1 x2 (Value.int .u64 0) (fun _ w =>
 storeW 1 x3 (Value.bool false) (fun _ w =>
 load1W x2 (fun x21 w =>
 load1W x3 (fun x22 w =>
 K (Value.tuple #[x21, x22]) w) w) w) w) w) (fun K w =>
 load1W x2 (fun x23 w =>
 load1W x3 (fun x24 w =>
 K (Value.tuple #[x23, x24]) w) w) w) K w) w) w) w) w) w) w) w

/-- levels_Levels_Put -/
def S_levels_Levels_Put (a0 a1 a2 : Value) (K : KV) : World → Prop := fun w =>
 binIntW .lss a1 (Value.int .i64 1) (fun x1 w =>
 gW x1 false (fun K w => K a1 w) (fun x2 w =>
 gW x1 false (fun K w => binIntW .geq x2 (Value.int .i64 256) K w) (fun x3 w =>
 pickW x1 (Value.bool true) x3 (fun x4 w =>
 condP x4 (fun w => K (Value.int .i64 2) w) (fun w => CP Try.prog Fn.levels_Levels_in [a0] (fun x5 w =>
 nilW x5 (fun x6 w =>
 addW 0 x6 (fun x7 w =>
 load1W x7 (fun x8 w =>
 CP Try.prog Fn.writes_Writes_Get [x8, a1] (fun x9 w =>
 extractW 0 x9 (fun x10 w =>
 extractW 1 x9 (fun x11 w =>
 notW x11 (fun x12 w =>
 gW x12 true (fun K w => K a0 w) (fun x13 w =>
 gW x12 true (fun K w => CP Try.prog Fn.levels_Levels_Room [x13] K w) (fun x14 w =>
 gW x12 true (fun K w => binIntW .eql x14 (Value.int .i64 0) K w) (fun x15 w =>
 pickW x12 x15 (Value.bool false) (fun x16 w =>
 condP x16 (fun w => K (Value.int .i64 5) w) (fun w => CP Try.prog Fn.writes_Writes_Put [x8, a1, a2] (fun x17 w =>
 K x17 w) w) w) w) w) w) w) w) w) w) w) w) w) w) w) w) w) w) w) w

/-- levels_Levels_Open -/
def S_levels_Levels_Open (a0 : Value) (K : KV) : World → Prop := fun w =>
 nilW a0 (fun x1 w =>
 addW 1 x1 (fun x2 w =>
 load1W x2 (fun x3 w =>
 lenW x3 (fun x4 w =>
 binIntW .geq x4 (Value.int .i64 6) (fun x5 w =>
 condP x5 (fun w => K (Value.int .i64 9) w) (fun w => drewW (fun w => nilW a0 (fun x6 w =>
 addW 1 x6 (fun x7 w =>
 load1W x7 (fun x8 w =>
 CP Try.prog Fn.levels_fresh [] (fun x9 w =>
 andP (fun w => andP (fun w => load1W x7 (fun v w => eqP v x8 w) w) (fun w => trueP w) w) (fun w =>
 buildSliceW [(Value.pointer none)] 1 [(0, 1, x9)] (fun x10 w =>
 andP (fun w => andP (fun w => load1W x7 (fun v w => eqP v x8 w) w) (fun w => trueP w) w) (fun w =>
 appendW 1 8 x8 x10 (fun x11 w =>
 andP (fun w => andP (fun w => trueP w) (fun w => trueP w) w) (fun w =>
 nilW a0 (fun x12 w =>
 addW 1 x12 (fun x13 w =>
 storeW 1 x13 x11 (fun _ w =>
 andP (fun w => trueP w) (fun w =>
 K (Value.int .i64 0) w) w) w) w) w) w) w) w) w) w) w) w) w) w) w) w) w) w) w) w) w

/-- levels_Levels_Drop -/
def S_levels_Levels_Drop (a0 : Value) (K : KV) : World → Prop := fun w =>
 nilW a0 (fun x1 w =>
 addW 1 x1 (fun x2 w =>
 load1W x2 (fun x3 w =>
 lenW x3 (fun x4 w =>
 binIntW .eql x4 (Value.int .i64 1) (fun x5 w =>
 condP x5 (fun w => K (Value.int .i64 10) w) (fun w => drewW (fun w => nilW a0 (fun x6 w =>
 addW 1 x6 (fun x7 w =>
 load1W x7 (fun x8 w =>
 nilW a0 (fun x9 w =>
 addW 1 x9 (fun x10 w =>
 load1W x10 (fun x11 w =>
 lenW x11 (fun x12 w =>
 binIntW .sub x12 (Value.int .i64 1) (fun x13 w =>
 sliceW 1 x8 none (some x13) (fun x14 w =>
 nilW a0 (fun x15 w =>
 addW 1 x15 (fun x16 w =>
 storeW 1 x16 x14 (fun _ w =>
 andP (fun w => andP (fun w => trueP w) (fun w => andP (fun w => trueP w) (fun w => trueP w) w) w) (fun w =>
 K (Value.int .i64 0) w) w) w) w) w) w) w) w) w) w) w) w) w) w) w) w) w) w) w) w) w

/-- levels_Levels_Keep -/
def S_levels_Levels_Keep (a0 : Value) (K : KV) : World → Prop := fun w =>
 CP Try.prog Fn.levels_Levels_in [a0] (fun x1 w =>
 CP Try.prog Fn.levels_Levels_Drop [a0] (fun x2 w =>
 binIntW .neq x2 (Value.int .i64 0) (fun x3 w =>
 condP x3 (fun w => K x2 w) (fun w => CP Try.prog Fn.levels_Levels_in [a0] (fun x4 w =>
 drewW (fun w => nilW x4 (fun x5 w =>
 addW 1 x5 (fun x6 w =>
 load1W x6 (fun x7 w =>
 nilW x1 (fun x8 w =>
 addW 1 x8 (fun x9 w =>
 load1W x9 (fun x10 w =>
 appendW 1 8 x7 x10 (fun x11 w =>
 andP (fun w => andP (fun w => trueP w) (fun w => andP (fun w => trueP w) (fun w => trueP w) w) w) (fun w =>
 nilW x4 (fun x12 w =>
 addW 1 x12 (fun x13 w =>
 storeW 1 x13 x11 (fun _ w =>
 andP (fun w => trueP w) (fun w =>
 drewW (fun w => nilW x4 (fun x15 w =>
 addW 0 x15 (fun x16 w =>
 load1W x16 (fun x17 w =>
 nilW x1 (fun x18 w =>
 addW 0 x18 (fun x19 w =>
 load1W x19 (fun x20 w =>
 CP Try.prog Fn.writes_Writes_All [x20] (fun x21 w =>
 andP (fun w => andP (fun w => trueP w) (fun w => andP (fun w => load1W x16 (fun v w => eqP v x17 w) w) (fun w => trueP w) w) w) (fun w =>
 CP Try.prog Fn.writes_Writes_Take [x17, x21] (fun x22 w =>
 andP (fun w => andP (fun w => trueP w) (fun w => trueP w) w) (fun w =>
 K x22 w) w) w) w) w) w) w) w) w) w) w) w) w) w) w) w) w) w) w) w) w) w) w) w) w) w) w) w) w) w

/-- ref1_Held -/
def S_ref1_Held (a0 a1 a2 : Value) (K : KV) : World → Prop := fun w =>
 binIntW .lss a0 a1 (fun x1 w =>
 condP x1 (fun w => K a1 w) (fun w => binIntW .gtr a0 a2 (fun x2 w =>
 condP x2 (fun w => K a2 w) (fun w => K a0 w) w) w) w) w

/-- ref7_NewLevels -/
def S_ref7_NewLevels (a0 : Value) (K : KV) : World → Prop := fun w =>
 drewW (fun w => andP (fun w => CP Try.prog Fn.ref1_Held [a0, (Value.int .i64 0), (Value.int .i64 96)] (fun x1 w =>
 andP (fun w => trueP w) (fun w =>
 makeSliceW 48 [(Value.slice none 0 0), (Value.slice none 0 0)] (Value.int .i64 1) (Value.int .i64 1) (fun x2 w =>
 andP (fun w => trueP w) (fun w =>
 buildW [(Value.int .i64 0), (Value.slice none 0 0)] [(0, 1, x1), (1, 1, x2)] (fun x3 w =>
 boxW x3 (fun x4 w =>
 andP (fun w => trueP w) (fun w =>
 K x4 w) w) w) w) w) w) w) w) (fun w => makeSliceW 48 [(Value.slice none 0 0), (Value.slice none 0 0)] (Value.int .i64 1) (Value.int .i64 1) (fun x5 w =>
 andP (fun w => trueP w) (fun w =>
 CP Try.prog Fn.ref1_Held [a0, (Value.int .i64 0), (Value.int .i64 96)] (fun x6 w =>
 andP (fun w => trueP w) (fun w =>
 buildW [(Value.int .i64 0), (Value.slice none 0 0)] [(0, 1, x6), (1, 1, x5)] (fun x7 w =>
 boxW x7 (fun x8 w =>
 andP (fun w => trueP w) (fun w =>
 K x8 w) w) w) w) w) w) w) w) w) w

/-- law10_place -/
def S_law10_place (a0 a1 : Value) (K : KV) : World → Prop := fun w =>
 binIntW .rem a1 (Value.int .i64 9) (fun x1 w =>
 binIntW .eql x1 (Value.int .i64 8) (fun x2 w =>
 condP x2 (fun w => K a0 w) (fun w => CP Try.prog Fn.book_Within [a0, (Value.int .i64 0), (Value.int .i64 34)] (fun x3 w =>
 K x3 w) w) w) w) w

/-- ref7_View_Know -/
def S_ref7_View_Know (a0 a1 a2 : Value) (K : KV) : World → Prop := fun w =>
 CP Try.prog Fn.ref7_View_In [a0, a1] (fun x1 w =>
 notW x1 (fun x2 w =>
 condP x2 (fun w => K (Value.int .i64 2) w) (fun w => nilW a0 (fun x3 w =>
 addW 1 x3 (fun x4 w =>
 load1W x4 (fun x5 w =>
 CP Try.prog Fn.ref7_Place [x5, a1] (fun x6 w =>
 binIntW .geq x6 (Value.int .i64 0) (fun x7 w =>
 condP x7 (fun w => nilW a0 (fun x8 w =>
 addW 1 x8 (fun x9 w =>
 load1W x9 (fun x10 w =>
 idxW 2 x10 x6 (fun x11 w =>
 addW 1 x11 (fun x12 w =>
 load1W x12 (fun x13 w =>
 binIntW .neq x13 a2 (fun x14 w =>
 condP x14 (fun w => K (Value.int .i64 14) w) (fun w => K (Value.int .i64 0) w) w) w) w) w) w) w) w) w) (fun w => nilW a0 (fun x15 w =>
 addW 1 x15 (fun x16 w =>
 load1W x16 (fun x17 w =>
 buildW [(Value.int .i64 0), (Value.int .u64 0)] [(0, 1, a1), (1, 1, a2)] (fun x18 w =>
 buildSliceW [(Value.int .i64 0), (Value.int .u64 0)] 1 [(0, 2, x18)] (fun x19 w =>
 appendW 2 16 x17 x19 (fun x20 w =>
 nilW a0 (fun x21 w =>
 addW 1 x21 (fun x22 w =>
 storeW 1 x22 x20 (fun _ w =>
 K (Value.int .i64 0) w) w) w) w) w) w) w) w) w) w) w) w) w) w) w) w) w) w) w

/-- ref7_View_In -/
def S_ref7_View_In (a0 a1 : Value) (K : KV) : World → Prop := fun w =>
 binIntW .geq a1 (Value.int .i64 1) (fun x1 w =>
 gW x1 true (fun K w => K a1 w) (fun x2 w =>
 gW x1 true (fun K w => K a0 w) (fun x3 w =>
 gW x1 true (fun K w => nilW x3 K w) (fun x4 w =>
 gW x1 true (fun K w => addW 0 x4 K w) (fun x5 w =>
 gW x1 true (fun K w => load1W x5 K w) (fun x6 w =>
 gW x1 true (fun K w => binIntW .lss x2 x6 K w) (fun x7 w =>
 pickW x1 x7 (Value.bool false) (fun x8 w =>
 K x8 w) w) w) w) w) w) w) w) w

/-- ref7_Levels_Put -/
def S_ref7_Levels_Put (a0 a1 a2 : Value) (K : KV) : World → Prop := fun w =>
 binIntW .lss a1 (Value.int .i64 1) (fun x1 w =>
 gW x1 false (fun K w => K a1 w) (fun x2 w =>
 gW x1 false (fun K w => binIntW .geq x2 (Value.int .i64 256) K w) (fun x3 w =>
 pickW x1 (Value.bool true) x3 (fun x4 w =>
 condP x4 (fun w => K (Value.int .i64 2) w) (fun w => nilW a0 (fun x5 w =>
 addW 1 x5 (fun x6 w =>
 load1W x6 (fun x7 w =>
 lenW x7 (fun x8 w =>
 binIntW .sub x8 (Value.int .i64 1) (fun x9 w =>
 nilW a0 (fun x10 w =>
 addW 1 x10 (fun x11 w =>
 load1W x11 (fun x12 w =>
 idxW 2 x12 x9 (fun x13 w =>
 addW 0 x13 (fun x14 w =>
 load1W x14 (fun x15 w =>
 CP Try.prog Fn.ref7_Place [x15, a1] (fun x16 w =>
 binIntW .lss x16 (Value.int .i64 0) (fun x17 w =>
 gW x17 true (fun K w => K a0 w) (fun x18 w =>
 gW x17 true (fun K w => CP Try.prog Fn.ref7_Levels_Room [x18] K w) (fun x19 w =>
 gW x17 true (fun K w => binIntW .leq x19 (Value.int .i64 0) K w) (fun x20 w =>
 pickW x17 x20 (Value.bool false) (fun x21 w =>
 condP x21 (fun w => K (Value.int .i64 5) w) (fun w => drewW (fun w => nilW a0 (fun x22 w =>
 addW 1 x22 (fun x23 w =>
 load1W x23 (fun x24 w =>
 nilW a0 (fun x25 w =>
 addW 1 x25 (fun x26 w =>
 load1W x26 (fun x27 w =>
 idxW 2 x27 x9 (fun x28 w =>
 addW 0 x28 (fun x29 w =>
 load1W x29 (fun x30 w =>
 CP Try.prog Fn.ref7_Put [x30, a1, a2] (fun x31 w =>
 andP (fun w => andP (fun w => trueP w) (fun w => andP (fun w => trueP w) (fun w => andP (fun w => load1W x23 (fun v w => eqP v x24 w) w) (fun w => trueP w) w) w) w) (fun w =>
 idxW 2 x24 x9 (fun x32 w =>
 addW 0 x32 (fun x33 w =>
 storeW 1 x33 x31 (fun _ w =>
 andP (fun w => andP (fun w => trueP w) (fun w => trueP w) w) (fun w =>
 K (Value.int .i64 0) w) w) w) w) w) w) w) w) w) w) w) w) w) w) w) w) w) w) w) w) w) w) w) w) w) w) w) w) w) w) w) w) w) w) w) w) w) w) w) w

/-- ref7_Levels_Open -/
def S_ref7_Levels_Open (a0 : Value) (K : KV) : World → Prop := fun w =>
 nilW a0 (fun x1 w =>
 addW 1 x1 (fun x2 w =>
 load1W x2 (fun x3 w =>
 lenW x3 (fun x4 w =>
 binIntW .geq x4 (Value.int .i64 6) (fun x5 w =>
 condP x5 (fun w => K (Value.int .i64 9) w) (fun w => nilW a0 (fun x6 w =>
 addW 1 x6 (fun x7 w =>
 load1W x7 (fun x8 w =>
 buildW [(Value.slice none 0 0), (Value.slice none 0 0)] [] (fun x9 w =>
 buildSliceW [(Value.slice none 0 0), (Value.slice none 0 0)] 1 [(0, 2, x9)] (fun x10 w =>
 appendW 2 48 x8 x10 (fun x11 w =>
 nilW a0 (fun x12 w =>
 addW 1 x12 (fun x13 w =>
 storeW 1 x13 x11 (fun _ w =>
 K (Value.int .i64 0) w) w) w) w) w) w) w) w) w) w) w) w) w) w) w) w

/-- ref7_Levels_Keep -/
def S_ref7_Levels_Keep (a0 : Value) (K : KV) : World → Prop := fun w =>
 nilW a0 (fun x1 w =>
 addW 1 x1 (fun x2 w =>
 load1W x2 (fun x3 w =>
 lenW x3 (fun x4 w =>
 binIntW .eql x4 (Value.int .i64 1) (fun x5 w =>
 condP x5 (fun w => K (Value.int .i64 10) w) (fun w => nilW a0 (fun x6 w =>
 addW 1 x6 (fun x7 w =>
 load1W x7 (fun x8 w =>
 binIntW .sub x4 (Value.int .i64 1) (fun x9 w =>
 idxW 2 x8 x9 (fun x10 w =>
 loadNW 2 x10 (fun x11 w =>
 newW #[(Value.slice none 0 0), (Value.slice none 0 0)] (fun x12 w =>
 storeW 2 x12 x11 (fun _ w =>
 nilW a0 (fun x14 w =>
 addW 1 x14 (fun x15 w =>
 load1W x15 (fun x16 w =>
 binIntW .sub x4 (Value.int .i64 2) (fun x17 w =>
 idxW 2 x16 x17 (fun x18 w =>
 loadNW 2 x18 (fun x19 w =>
 newW #[(Value.slice none 0 0), (Value.slice none 0 0)] (fun x20 w =>
 storeW 2 x20 x19 (fun _ w =>
 loopW1 (Value.int .i64 0) (fun J1 x22 w =>
 addW 0 x12 (fun x23 w =>
 load1W x23 (fun x24 w =>
 lenW x24 (fun x25 w =>
 binIntW .lss x22 x25 (fun x26 w =>
 condP x26 (fun w => drewW (fun w => addW 0 x20 (fun x27 w =>
 load1W x27 (fun x28 w =>
 addW 0 x12 (fun x29 w =>
 load1W x29 (fun x30 w =>
 idxW 2 x30 x22 (fun x31 w =>
 addW 0 x31 (fun x32 w =>
 load1W x32 (fun x33 w =>
 addW 0 x12 (fun x34 w =>
 load1W x34 (fun x35 w =>
 idxW 2 x35 x22 (fun x36 w =>
 addW 1 x36 (fun x37 w =>
 load1W x37 (fun x38 w =>
 CP Try.prog Fn.ref7_Put [x28, x33, x38] (fun x39 w =>
 andP (fun w => andP (fun w => trueP w) (fun w => andP (fun w => trueP w) (fun w => andP (fun w => trueP w) (fun w => andP (fun w => trueP w) (fun w => andP (fun w => trueP w) (fun w => trueP w) w) w) w) w) w) (fun w =>
 addW 0 x20 (fun x40 w =>
 storeW 1 x40 x39 (fun _ w =>
 andP (fun w => trueP w) (fun w =>
 binIntW .add x22 (Value.int .i64 1) (fun x42 w =>
 J1 x42 w) w) w) w) w) w) w) w) w) w) w) w) w) w) w) w) w) w) w) w) (fun w => drewW (fun w => addW 1 x20 (fun x43 w =>
 load1W x43 (fun x44 w =>
 addW 1 x12 (fun x45 w =>
 load1W x45 (fun x46 w =>
 appendW 1 8 (Value.slice none 0 0) x44 (fun x47 w =>
 andP (fun w => andP (fun w => load1W x45 (fun v w => eqP v x46 w) w) (fun w => andP (fun w => trueP w) (fun w => trueP w) w) w) (fun w =>
 appendW 1 8 x47 x46 (fun x48 w =>
 andP (fun w => andP (fun w => trueP w) (fun w => trueP w) w) (fun w =>
 addW 1 x20 (fun x49 w =>
 storeW 1 x49 x48 (fun _ w =>
 andP (fun w => trueP w) (fun w =>
 nilW a0 (fun x51 w =>
 addW 1 x51 (fun x52 w =>
 load1W x52 (fun x53 w =>
 binIntW .sub x4 (Value.int .i64 1) (fun x54 w =>
 sliceW 2 x53 none (some x54) (fun x55 w =>
 nilW a0 (fun x56 w =>
 addW 1 x56 (fun x57 w =>
 storeW 1 x57 x55 (fun _ w =>
 drewW (fun w => nilW a0 (fun x59 w =>
 addW 1 x59 (fun x60 w =>
 load1W x60 (fun x61 w =>
 binIntW .sub x4 (Value.int .i64 2) (fun x62 w =>
 loadNW 2 x20 (fun x63 w =>
 idxW 2 x61 x62 (fun x64 w =>
 storeW 2 x64 x63 (fun _ w =>
 andP (fun w => andP (fun w => trueP w) (fun w => andP (fun w => trueP w) (fun w => trueP w) w) w) (fun w =>
 K (Value.int .i64 0) w) w) w) w) w) w) w) w) w) w) w) w) w) w) w) w) w) w) w) w) w) w) w) w) w) w) w) w) w) w) w) w) w) w) w) w) w) w) w) w) w) w) w) w) w) w) w) w) w) w) w) w) w) w) w) w) w) w

/-- ref7_Levels_Drop -/
def S_ref7_Levels_Drop (a0 : Value) (K : KV) : World → Prop := fun w =>
 nilW a0 (fun x1 w =>
 addW 1 x1 (fun x2 w =>
 load1W x2 (fun x3 w =>
 lenW x3 (fun x4 w =>
 binIntW .eql x4 (Value.int .i64 1) (fun x5 w =>
 condP x5 (fun w => K (Value.int .i64 10) w) (fun w => drewW (fun w => nilW a0 (fun x6 w =>
 addW 1 x6 (fun x7 w =>
 load1W x7 (fun x8 w =>
 nilW a0 (fun x9 w =>
 addW 1 x9 (fun x10 w =>
 load1W x10 (fun x11 w =>
 lenW x11 (fun x12 w =>
 binIntW .sub x12 (Value.int .i64 1) (fun x13 w =>
 sliceW 2 x8 none (some x13) (fun x14 w =>
 nilW a0 (fun x15 w =>
 addW 1 x15 (fun x16 w =>
 storeW 1 x16 x14 (fun _ w =>
 andP (fun w => andP (fun w => trueP w) (fun w => andP (fun w => trueP w) (fun w => trueP w) w) w) (fun w =>
 K (Value.int .i64 0) w) w) w) w) w) w) w) w) w) w) w) w) w) w) w) w) w) w) w) w) w

/-- view_View_Free -/
def S_view_View_Free (a0 a1 : Value) (K : KV) : World → Prop := fun w =>
 nilW a0 (fun x1 w =>
 addW 2 x1 (fun x2 w =>
 load1W x2 (fun x3 w =>
 CP Try.prog Fn.levels_Levels_Free [x3, a1] (fun x4 w =>
 K (Value.tuple #[]) w) w) w) w) w

/-- ref7_Levels_Free -/
def S_ref7_Levels_Free (a0 a1 : Value) (K : KV) : World → Prop := fun w =>
 nilW a0 (fun x1 w =>
 addW 1 x1 (fun x2 w =>
 load1W x2 (fun x3 w =>
 lenW x3 (fun x4 w =>
 binIntW .sub x4 (Value.int .i64 1) (fun x5 w =>
 drewW (fun w => nilW a0 (fun x6 w =>
 addW 1 x6 (fun x7 w =>
 load1W x7 (fun x8 w =>
 nilW a0 (fun x9 w =>
 addW 1 x9 (fun x10 w =>
 load1W x10 (fun x11 w =>
 idxW 2 x11 x5 (fun x12 w =>
 addW 1 x12 (fun x13 w =>
 load1W x13 (fun x14 w =>
 andP (fun w => appendW 1 8 (Value.slice none 0 0) x14 (fun x15 w =>
 andP (fun w => andP (fun w => trueP w) (fun w => andP (fun w => trueP w) (fun w => andP (fun w => load1W x7 (fun v w => eqP v x8 w) w) (fun w => trueP w) w) w) w) (fun w =>
 buildSliceW [(Value.int .i64 0)] 1 [(0, 1, a1)] (fun x16 w =>
 andP (fun w => andP (fun w => load1W x7 (fun v w => eqP v x8 w) w) (fun w => trueP w) w) (fun w =>
 appendW 1 8 x15 x16 (fun x17 w =>
 andP (fun w => andP (fun w => load1W x7 (fun v w => eqP v x8 w) w) (fun w => trueP w) w) (fun w =>
 idxW 2 x8 x5 (fun x18 w =>
 addW 1 x18 (fun x19 w =>
 storeW 1 x19 x17 (fun _ w =>
 andP (fun w => andP (fun w => trueP w) (fun w => trueP w) w) (fun w =>
 K (Value.tuple #[]) w) w) w) w) w) w) w) w) w) w) w) (fun w => buildSliceW [(Value.int .i64 0)] 1 [(0, 1, a1)] (fun x21 w =>
 andP (fun w => andP (fun w => load1W x13 (fun v w => eqP v x14 w) w) (fun w => andP (fun w => load1W x10 (fun v w => eqP v x11 w) w) (fun w => andP (fun w => load1W x7 (fun v w => eqP v x8 w) w) (fun w => trueP w) w) w) w) (fun w =>
 appendW 1 8 (Value.slice none 0 0) x14 (fun x22 w =>
 andP (fun w => andP (fun w => trueP w) (fun w => andP (fun w => trueP w) (fun w => andP (fun w => load1W x7 (fun v w => eqP v x8 w) w) (fun w => trueP w) w) w) w) (fun w =>
 appendW 1 8 x22 x21 (fun x23 w =>
 andP (fun w => andP (fun w => load1W x7 (fun v w => eqP v x8 w) w) (fun w => trueP w) w) (fun w =>
 idxW 2 x8 x5 (fun x24 w =>
 addW 1 x24 (fun x25 w =>
 storeW 1 x25 x23 (fun _ w =>
 andP (fun w => andP (fun w => trueP w) (fun w => trueP w) w) (fun w =>
 K (Value.tuple #[]) w) w) w) w) w) w) w) w) w) w) w) w) w) w) w) w) w) w) w) w) w) w) w) w) w) w) w

/-- view_View_Take -/
def S_view_View_Take (a0 a1 : Value) (K : KV) : World → Prop := fun w =>
 lenW a1 (fun x1 w =>
 loopW1 (Value.int .i64 0) (fun J1 x2 w =>
 binIntW .lss x2 x1 (fun x3 w =>
 condP x3 (fun w => idxW 2 a1 x2 (fun x4 w =>
 loadNW 2 x4 (fun x5 w =>
 newW #[(Value.int .i64 0), (Value.int .u64 0)] (fun x6 w =>
 storeW 2 x6 x5 (fun _ w =>
 addW 0 x6 (fun x8 w =>
 load1W x8 (fun x9 w =>
 CP Try.prog Fn.view_View_is [a0, x9] (fun x10 w =>
 notW x10 (fun x11 w =>
 condP x11 (fun w => K (Value.int .i64 2) w) (fun w => binIntW .add x2 (Value.int .i64 1) (fun x12 w =>
 J1 x12 w) w) w) w) w) w) w) w) w) w) w) (fun w => nilW a0 (fun x13 w =>
 addW 2 x13 (fun x14 w =>
 load1W x14 (fun x15 w =>
 CP Try.prog Fn.levels_Levels_Take [x15, a1] (fun x16 w =>
 K x16 w) w) w) w) w) w) w) w) w

/-- ref7_View_Take -/
def S_ref7_View_Take (a0 a1 : Value) (K : KV) : World → Prop := fun w =>
 loopW1 (Value.int .i64 0) (fun J1 x1 w =>
 lenW a1 (fun x2 w =>
 binIntW .lss x1 x2 (fun x3 w =>
 condP x3 (fun w => idxW 2 a1 x1 (fun x4 w =>
 addW 0 x4 (fun x5 w =>
 load1W x5 (fun x6 w =>
 CP Try.prog Fn.ref7_View_In [a0, x6] (fun x7 w =>
 notW x7 (fun x8 w =>
 condP x8 (fun w => K (Value.int .i64 2) w) (fun w => binIntW .add x1 (Value.int .i64 1) (fun x9 w =>
 J1 x9 w) w) w) w) w) w) w) w) (fun w => nilW a0 (fun x10 w =>
 addW 2 x10 (fun x11 w =>
 load1W x11 (fun x12 w =>
 CP Try.prog Fn.ref7_Levels_Take [x12, a1] (fun x13 w =>
 K x13 w) w) w) w) w) w) w) w) w

/-- ref7_View_Read -/
def S_ref7_View_Read (a0 a1 : Value) (K : KV) : World → Prop := fun w =>
 CP Try.prog Fn.ref7_View_In [a0, a1] (fun x1 w =>
 notW x1 (fun x2 w =>
 condP x2 (fun w => K (Value.tuple #[(Value.int .u64 0), (Value.int .i64 2)]) w) (fun w => nilW a0 (fun x3 w =>
 addW 2 x3 (fun x4 w =>
 load1W x4 (fun x5 w =>
 CP Try.prog Fn.ref7_Levels_Get [x5, a1] (fun x6 w =>
 extractW 0 x6 (fun x7 w =>
 extractW 1 x6 (fun x8 w =>
 condP x8 (fun w => K (Value.tuple #[x7, (Value.int .i64 0)]) w) (fun w => nilW a0 (fun x9 w =>
 addW 1 x9 (fun x10 w =>
 load1W x10 (fun x11 w =>
 CP Try.prog Fn.ref7_Place [x11, a1] (fun x12 w =>
 binIntW .geq x12 (Value.int .i64 0) (fun x13 w =>
 condP x13 (fun w => nilW a0 (fun x14 w =>
 addW 1 x14 (fun x15 w =>
 load1W x15 (fun x16 w =>
 idxW 2 x16 x12 (fun x17 w =>
 addW 1 x17 (fun x18 w =>
 load1W x18 (fun x19 w =>
 K (Value.tuple #[x19, (Value.int .i64 0)]) w) w) w) w) w) w) w) (fun w => nilW a0 (fun x20 w =>
 addW 3 x20 (fun x21 w =>
 storeW 1 x21 a1 (fun _ w =>
 K (Value.tuple #[(Value.int .u64 0), (Value.int .i64 11)]) w) w) w) w) w) w) w) w) w) w) w) w) w) w) w) w) w) w) w) w

/-- ref7_Levels_Whole -/
def S_ref7_Levels_Whole (a0 : Value) (K : KV) : World → Prop := fun w =>
 newW #[(Value.slice none 0 0), (Value.slice none 0 0)] (fun x1 w =>
 CP Try.prog Fn.ref7_Levels_Copy [a0] (fun x2 w =>
 loopW0  (fun J1  w =>
 nilW x2 (fun x3 w =>
 addW 1 x3 (fun x4 w =>
 load1W x4 (fun x5 w =>
 lenW x5 (fun x6 w =>
 binIntW .gtr x6 (Value.int .i64 1) (fun x7 w =>
 condP x7 (fun w => CP Try.prog Fn.ref7_Levels_Keep [x2] (fun x8 w =>
 J1  w) w) (fun w => nilW x2 (fun x9 w =>
 addW 1 x9 (fun x10 w =>
 load1W x10 (fun x11 w =>
 idxW 2 x11 (Value.int .i64 0) (fun x12 w =>
 addW 0 x12 (fun x13 w =>
 load1W x13 (fun x14 w =>
 buildW [(Value.slice none 0 0), (Value.slice none 0 0)] [(0, 1, x14)] (fun x15 w =>
 newW #[(Value.slice none 0 0), (Value.slice none 0 0)] (fun x16 w =>
 storeW 2 x16 x15 (fun _ w =>
 loopW1 (Value.int .i64 0) (fun J2 x18 w =>
 nilW a0 (fun x19 w =>
 addW 1 x19 (fun x20 w =>
 load1W x20 (fun x21 w =>
 lenW x21 (fun x22 w =>
 binIntW .lss x18 x22 (fun x23 w =>
 condP x23 (fun w => drewW (fun w => addW 1 x16 (fun x24 w =>
 load1W x24 (fun x25 w =>
 nilW a0 (fun x26 w =>
 addW 1 x26 (fun x27 w =>
 load1W x27 (fun x28 w =>
 idxW 2 x28 x18 (fun x29 w =>
 addW 1 x29 (fun x30 w =>
 load1W x30 (fun x31 w =>
 appendW 1 8 x25 x31 (fun x32 w =>
 andP (fun w => andP (fun w => trueP w) (fun w => andP (fun w => trueP w) (fun w => andP (fun w => trueP w) (fun w => trueP w) w) w) w) (fun w =>
 addW 1 x16 (fun x33 w =>
 storeW 1 x33 x32 (fun _ w =>
 andP (fun w => trueP w) (fun w =>
 binIntW .add x18 (Value.int .i64 1) (fun x35 w =>
 J2 x35 w) w) w) w) w) w) w) w) w) w) w) w) w) w) w) w) (fun w => loadNW 2 x16 (fun x36 w =>
 storeW 2 x1 x36 (fun _ w =>
 loadNW 2 x1 (fun x38 w =>
 K x38 w) w) w) w) w) w) w) w) w) w) w) w) w) w) w) w) w) w) w) w) w) w) w) w) w) w) w) w) w

/-- view_View_Cells -/
def S_view_View_Cells (a0 : Value) (K : KV) : World → Prop := fun w =>
 nilW a0 (fun x1 w =>
 addW 2 x1 (fun x2 w =>
 load1W x2 (fun x3 w =>
 CP Try.prog Fn.levels_Levels_Cells [x3] (fun x4 w =>
 K x4 w) w) w) w) w

/-- view_View_Frees -/
def S_view_View_Frees (a0 : Value) (K : KV) : World → Prop := fun w =>
 nilW a0 (fun x1 w =>
 addW 2 x1 (fun x2 w =>
 load1W x2 (fun x3 w =>
 CP Try.prog Fn.levels_Levels_Frees [x3] (fun x4 w =>
 K x4 w) w) w) w) w

/-- view_View_Depth -/
def S_view_View_Depth (a0 : Value) (K : KV) : World → Prop := fun w =>
 nilW a0 (fun x1 w =>
 addW 2 x1 (fun x2 w =>
 load1W x2 (fun x3 w =>
 CP Try.prog Fn.levels_Levels_Depth [x3] (fun x4 w =>
 K x4 w) w) w) w) w

/-- view_View_Room -/
def S_view_View_Room (a0 : Value) (K : KV) : World → Prop := fun w =>
 nilW a0 (fun x1 w =>
 addW 2 x1 (fun x2 w =>
 load1W x2 (fun x3 w =>
 CP Try.prog Fn.levels_Levels_Room [x3] (fun x4 w =>
 K x4 w) w) w) w) w

/-- ref7_Levels_Room -/
def S_ref7_Levels_Room (a0 : Value) (K : KV) : World → Prop := fun w =>
 nilW a0 (fun x1 w =>
 addW 0 x1 (fun x2 w =>
 load1W x2 (fun x3 w =>
 loopW2 x3 (Value.int .i64 0) (fun J1 x4 x5 w =>
 nilW a0 (fun x6 w =>
 addW 1 x6 (fun x7 w =>
 load1W x7 (fun x8 w =>
 lenW x8 (fun x9 w =>
 binIntW .lss x5 x9 (fun x10 w =>
 condP x10 (fun w => nilW a0 (fun x11 w =>
 addW 1 x11 (fun x12 w =>
 load1W x12 (fun x13 w =>
 idxW 2 x13 x5 (fun x14 w =>
 addW 0 x14 (fun x15 w =>
 load1W x15 (fun x16 w =>
 lenW x16 (fun x17 w =>
 binIntW .sub x4 x17 (fun x18 w =>
 binIntW .add x5 (Value.int .i64 1) (fun x19 w =>
 J1 x18 x19 w) w) w) w) w) w) w) w) w) w) (fun w => K x4 w) w) w) w) w) w) w) w) w) w) w

/-- writes_Writes_find -/
def S_writes_Writes_find (a0 a1 : Value) (K : KV) : World → Prop := fun w =>
 boxW a1 (fun x1 w =>
 nilW a0 (fun x2 w =>
 addW 1 x2 (fun x3 w =>
 load1W x3 (fun x4 w =>
 CP Try.prog Fn.slices_IndexFunc_api_Cell_api_Cell [x4, (Value.func (.func Fn.writes_Writes_find_1) #[] #[x1])] (fun x5 w =>
 K x5 w) w) w) w) w) w

/-- slices_Clone_api_Cell_api_Cell -/
def S_slices_Clone_api_Cell_api_Cell (a0 : Value) (K : KV) : World → Prop := fun w =>
 eqNilSliceW .eql a0 (Value.slice none 0 0) (fun x1 w =>
 condP x1 (fun w => K (Value.slice none 0 0) w) (fun w => buildSliceW [(Value.int .i64 0), (Value.int .u64 0)] 0 [] (fun x2 w =>
 appendW 2 16 x2 a0 (fun x3 w =>
 K x3 w) w) w) w) w

/-- stripe_Of -/
def S_stripe_Of (a0 a1 a2 : Value) (K : KV) : World → Prop := fun w =>
 binIntW .lss a0 (Value.int .i64 0) (fun x1 w =>
 condP x1 (fun w => K (Value.int .i64 (-1)) w) (fun w => drewW (fun w => CP Try.prog Fn.stripe_near [a2, (Value.int .i64 16)] (fun x2 w =>
 andP (fun w => trueP w) (fun w =>
 binIntW .quo a0 x2 (fun x3 w =>
 CP Try.prog Fn.stripe_near [a1, (Value.int .i64 16)] (fun x4 w =>
 andP (fun w => trueP w) (fun w =>
 binIntW .rem x3 x4 (fun x5 w =>
 K x5 w) w) w) w) w) w) w) w) w) w

/-- slices_Sort_int_int -/
def S_slices_Sort_int_int (a0 : Value) (K : KV) : World → Prop := fun w =>
 lenW a0 (fun x1 w =>
 convW .u64 x1 (fun x2 w =>
 CP Try.prog Fn.math_bits_Len [x2] (fun x3 w =>
 CP Try.prog Fn.slices_pdqsortOrdered_int [a0, (Value.int .i64 0), x1, x3] (fun x4 w =>
 K (Value.tuple #[]) w) w) w) w) w

/-- ref1_Of -/
def S_ref1_Of (a0 a1 a2 : Value) (K : KV) : World → Prop := fun w =>
 binIntW .lss a0 (Value.int .i64 0) (fun x1 w =>
 condP x1 (fun w => K (Value.int .i64 (-1)) w) (fun w => drewW (fun w => CP Try.prog Fn.ref1_Held [a2, (Value.int .i64 1), (Value.int .i64 16)] (fun x2 w =>
 andP (fun w => trueP w) (fun w =>
 binIntW .quo a0 x2 (fun x3 w =>
 CP Try.prog Fn.ref1_Held [a1, (Value.int .i64 1), (Value.int .i64 16)] (fun x4 w =>
 andP (fun w => trueP w) (fun w =>
 binIntW .rem x3 x4 (fun x5 w =>
 K x5 w) w) w) w) w) w) w) w) w) w

/-- ref7_Put -/
def S_ref7_Put (a0 a1 a2 : Value) (K : KV) : World → Prop := fun w =>
 appendW 2 16 (Value.slice none 0 0) a0 (fun x1 w =>
 CP Try.prog Fn.ref7_Place [x1, a1] (fun x2 w =>
 binIntW .geq x2 (Value.int .i64 0) (fun x3 w =>
 condP x3 (fun w => idxW 2 x1 x2 (fun x4 w =>
 addW 1 x4 (fun x5 w =>
 storeW 1 x5 a2 (fun _ w =>
 K x1 w) w) w) w) (fun w => buildW [(Value.int .i64 0), (Value.int .u64 0)] [(0, 1, a1), (1, 1, a2)] (fun x7 w =>
 buildSliceW [(Value.int .i64 0), (Value.int .u64 0)] 1 [(0, 2, x7)] (fun x8 w =>
 appendW 2 16 x1 x8 (fun x9 w =>
 K x9 w) w) w) w) w) w) w) w

/-- levels_fresh -/
def S_levels_fresh (K : KV) : World → Prop := fun w =>
 CP Try.prog Fn.writes_New [(Value.int .i64 96)] (fun x1 w =>
 buildW [(Value.pointer none), (Value.slice none 0 0)] [(0, 1, x1)] (fun x2 w =>
 boxW x2 (fun x3 w =>
 K x3 w) w) w) w

/-- slices_Backward_levels_level_levels_level -/
def S_slices_Backward_levels_level_levels_level (a0 : Value) (K : KV) : World → Prop := fun w =>
 boxW a0 (fun x1 w =>
 K (Value.func (.func Fn.slices_Backward_levels_level_levels_level_1) #[] #[x1]) w) w

/-- levels_Levels_in -/
def S_levels_Levels_in (a0 : Value) (K : KV) : World → Prop := fun w =>
 drewW (fun w => nilW a0 (fun x1 w =>
 addW 1 x1 (fun x2 w =>
 load1W x2 (fun x3 w =>
 nilW a0 (fun x4 w =>
 addW 1 x4 (fun x5 w =>
 load1W x5 (fun x6 w =>
 lenW x6 (fun x7 w =>
 binIntW .sub x7 (Value.int .i64 1) (fun x8 w =>
 idxW 1 x3 x8 (fun x9 w =>
 load1W x9 (fun x10 w =>
 K x10 w) w) w) w) w) w) w) w) w) w) w) w

/-- levels_Levels_Room -/
def S_levels_Levels_Room (a0 : Value) (K : KV) : World → Prop := fun w =>
 nilW a0 (fun x1 w =>
 addW 0 x1 (fun x2 w =>
 load1W x2 (fun x3 w =>
 nilW a0 (fun x4 w =>
 addW 1 x4 (fun x5 w =>
 load1W x5 (fun x6 w =>
 lenW x6 (fun x7 w =>
 loopW2 x3 (Value.int .i64 0) (fun J1 x8 x9 w =>
 binIntW .lss x9 x7 (fun x10 w =>
 condP x10 (fun w => idxW 1 x6 x9 (fun x11 w =>
 load1W x11 (fun x12 w =>
 nilW x12 (fun x13 w =>
 addW 0 x13 (fun x14 w =>
 load1W x14 (fun x15 w =>
 CP Try.prog Fn.writes_Writes_Len [x15] (fun x16 w =>
 binIntW .sub x8 x16 (fun x17 w =>
 binIntW .add x9 (Value.int .i64 1) (fun x18 w =>
 J1 x17 x18 w) w) w) w) w) w) w) w) w) (fun w => K x8 w) w) w) w) w) w) w) w) w) w) w

/-- levels_Levels_Free -/
def S_levels_Levels_Free (a0 a1 : Value) (K : KV) : World → Prop := fun w =>
 CP Try.prog Fn.levels_Levels_in [a0] (fun x1 w =>
 nilW x1 (fun x2 w =>
 addW 1 x2 (fun x3 w =>
 load1W x3 (fun x4 w =>
 buildSliceW [(Value.int .i64 0)] 1 [(0, 1, a1)] (fun x5 w =>
 appendW 1 8 x4 x5 (fun x6 w =>
 nilW x1 (fun x7 w =>
 addW 1 x7 (fun x8 w =>
 storeW 1 x8 x6 (fun _ w =>
 K (Value.tuple #[]) w) w) w) w) w) w) w) w) w) w

/-- levels_Levels_Take -/
def S_levels_Levels_Take (a0 a1 : Value) (K : KV) : World → Prop := fun w =>
 CP Try.prog Fn.writes_New [(Value.int .i64 96)] (fun x1 w =>
 CP Try.prog Fn.levels_Levels_in [a0] (fun x2 w =>
 nilW x2 (fun x3 w =>
 addW 0 x3 (fun x4 w =>
 load1W x4 (fun x5 w =>
 CP Try.prog Fn.writes_Writes_All [x5] (fun x6 w =>
 CP Try.prog Fn.writes_Writes_Take [x1, x6] (fun x7 w =>
 lenW a1 (fun x8 w =>
 loopW1 (Value.int .i64 0) (fun J1 x9 w =>
 binIntW .lss x9 x8 (fun x10 w =>
 condP x10 (fun w => idxW 2 a1 x9 (fun x11 w =>
 loadNW 2 x11 (fun x12 w =>
 newW #[(Value.int .i64 0), (Value.int .u64 0)] (fun x13 w =>
 storeW 2 x13 x12 (fun _ w =>
 addW 0 x13 (fun x15 w =>
 load1W x15 (fun x16 w =>
 addW 1 x13 (fun x17 w =>
 load1W x17 (fun x18 w =>
 CP Try.prog Fn.levels_Levels_Put [a0, x16, x18] (fun x19 w =>
 binIntW .neq x19 (Value.int .i64 0) (fun x20 w =>
 condP x20 (fun w => CP Try.prog Fn.levels_Levels_in [a0] (fun x21 w =>
 nilW x21 (fun x22 w =>
 addW 0 x22 (fun x23 w =>
 storeW 1 x23 x1 (fun _ w =>
 K x19 w) w) w) w) w) (fun w => binIntW .add x9 (Value.int .i64 1) (fun x25 w =>
 J1 x25 w) w) w) w) w) w) w) w) w) w) w) w) w) (fun w => K (Value.int .i64 0) w) w) w) w) w) w) w) w) w) w) w) w

/-- ref7_Levels_Take -/
def S_ref7_Levels_Take (a0 a1 : Value) (K : KV) : World → Prop := fun w =>
 CP Try.prog Fn.ref7_Levels_Copy [a0] (fun x1 w =>
 loopW1 (Value.int .i64 0) (fun J1 x2 w =>
 lenW a1 (fun x3 w =>
 binIntW .lss x2 x3 (fun x4 w =>
 condP x4 (fun w => drewW (fun w => idxW 2 a1 x2 (fun x5 w =>
 addW 0 x5 (fun x6 w =>
 load1W x6 (fun x7 w =>
 idxW 2 a1 x2 (fun x8 w =>
 addW 1 x8 (fun x9 w =>
 load1W x9 (fun x10 w =>
 CP Try.prog Fn.ref7_Levels_Put [x1, x7, x10] (fun x11 w =>
 andP (fun w => andP (fun w => trueP w) (fun w => andP (fun w => trueP w) (fun w => trueP w) w) w) (fun w =>
 binIntW .neq x11 (Value.int .i64 0) (fun x12 w =>
 condP x12 (fun w => K x11 w) (fun w => binIntW .add x2 (Value.int .i64 1) (fun x13 w =>
 J1 x13 w) w) w) w) w) w) w) w) w) w) w) w) w) (fun w => nilW x1 (fun x14 w =>
 addW 1 x14 (fun x15 w =>
 load1W x15 (fun x16 w =>
 nilW a0 (fun x17 w =>
 addW 1 x17 (fun x18 w =>
 storeW 1 x18 x16 (fun _ w =>
 K (Value.int .i64 0) w) w) w) w) w) w) w) w) w) w) w) w

/-- ref7_Levels_Get -/
def S_ref7_Levels_Get (a0 a1 : Value) (K : KV) : World → Prop := fun w =>
 nilW a0 (fun x1 w =>
 addW 1 x1 (fun x2 w =>
 load1W x2 (fun x3 w =>
 lenW x3 (fun x4 w =>
 binIntW .sub x4 (Value.int .i64 1) (fun x5 w =>
 loopW1 x5 (fun J1 x6 w =>
 binIntW .geq x6 (Value.int .i64 0) (fun x7 w =>
 condP x7 (fun w => nilW a0 (fun x8 w =>
 addW 1 x8 (fun x9 w =>
 load1W x9 (fun x10 w =>
 idxW 2 x10 x6 (fun x11 w =>
 addW 0 x11 (fun x12 w =>
 load1W x12 (fun x13 w =>
 CP Try.prog Fn.ref7_Place [x13, a1] (fun x14 w =>
 binIntW .geq x14 (Value.int .i64 0) (fun x15 w =>
 condP x15 (fun w => nilW a0 (fun x16 w =>
 addW 1 x16 (fun x17 w =>
 load1W x17 (fun x18 w =>
 idxW 2 x18 x6 (fun x19 w =>
 addW 0 x19 (fun x20 w =>
 load1W x20 (fun x21 w =>
 idxW 2 x21 x14 (fun x22 w =>
 addW 1 x22 (fun x23 w =>
 load1W x23 (fun x24 w =>
 K (Value.tuple #[x24, (Value.bool true)]) w) w) w) w) w) w) w) w) w) w) (fun w => binIntW .sub x6 (Value.int .i64 1) (fun x25 w =>
 J1 x25 w) w) w) w) w) w) w) w) w) w) w) (fun w => K (Value.tuple #[(Value.int .u64 0), (Value.bool false)]) w) w) w) w) w) w) w) w) w

/-- ref7_Levels_Copy -/
def S_ref7_Levels_Copy (a0 : Value) (K : KV) : World → Prop := fun w =>
 nilW a0 (fun x1 w =>
 addW 0 x1 (fun x2 w =>
 load1W x2 (fun x3 w =>
 buildW [(Value.int .i64 0), (Value.slice none 0 0)] [(0, 1, x3)] (fun x4 w =>
 boxW x4 (fun x5 w =>
 loopW1 (Value.int .i64 0) (fun J1 x6 w =>
 nilW a0 (fun x7 w =>
 addW 1 x7 (fun x8 w =>
 load1W x8 (fun x9 w =>
 lenW x9 (fun x10 w =>
 binIntW .lss x6 x10 (fun x11 w =>
 condP x11 (fun w => drewW (fun w => nilW x5 (fun x12 w =>
 addW 1 x12 (fun x13 w =>
 load1W x13 (fun x14 w =>
 nilW a0 (fun x15 w =>
 addW 1 x15 (fun x16 w =>
 load1W x16 (fun x17 w =>
 idxW 2 x17 x6 (fun x18 w =>
 addW 0 x18 (fun x19 w =>
 load1W x19 (fun x20 w =>
 nilW a0 (fun x21 w =>
 addW 1 x21 (fun x22 w =>
 load1W x22 (fun x23 w =>
 idxW 2 x23 x6 (fun x24 w =>
 addW 1 x24 (fun x25 w =>
 load1W x25 (fun x26 w =>
 appendW 2 16 (Value.slice none 0 0) x20 (fun x27 w =>
 andP (fun w => andP (fun w => load1W x25 (fun v w => eqP v x26 w) w) (fun w => andP (fun w => load1W x22 (fun v w => eqP v x23 w) w) (fun w => andP (fun w => trueP w) (fun w => andP (fun w => trueP w) (fun w => andP (fun w => load1W x13 (fun v w => eqP v x14 w) w) (fun w => trueP w) w) w) w) w) w) (fun w =>
 appendW 1 8 (Value.slice none 0 0) x26 (fun x28 w =>
 andP (fun w => andP (fun w => trueP w) (fun w => andP (fun w => trueP w) (fun w => andP (fun w => load1W x13 (fun v w => eqP v x14 w) w) (fun w => trueP w) w) w) w) (fun w =>
 buildW [(Value.slice none 0 0), (Value.slice none 0 0)] [(0, 1, x27), (1, 1, x28)] (fun x29 w =>
 buildSliceW [(Value.slice none 0 0), (Value.slice none 0 0)] 1 [(0, 2, x29)] (fun x30 w =>
 andP (fun w => andP (fun w => load1W x13 (fun v w => eqP v x14 w) w) (fun w => trueP w) w) (fun w =>
 appendW 2 48 x14 x30 (fun x31 w =>
 andP (fun w => andP (fun w => trueP w) (fun w => trueP w) w) (fun w =>
 nilW x5 (fun x32 w =>
 addW 1 x32 (fun x33 w =>
 storeW 1 x33 x31 (fun _ w =>
 andP (fun w => trueP w) (fun w =>
 binIntW .add x6 (Value.int .i64 1) (fun x35 w =>
 J1 x35 w) w) w) w) w) w) w) w) w) w) w) w) w) w) w) w) w) w) w) w) w) w) w) w) w) w) w) w) w) w) w) (fun w => K x5 w) w) w) w) w) w) w) w) w) w) w) w) w

/-- levels_Levels_Cells -/
def S_levels_Levels_Cells (a0 : Value) (K : KV) : World → Prop := fun w =>
 newW #[(Value.slice none 0 0)] (fun x1 w =>
 nilW a0 (fun x2 w =>
 addW 1 x2 (fun x3 w =>
 load1W x3 (fun x4 w =>
 CP Try.prog Fn.slices_Backward_levels_level_levels_level [x4] (fun x5 w =>
 backW Fn.slices_Backward_levels_level_levels_level_1 x5 (fun J R x6 x7 w =>
 CP Try.prog Fn.writes_New [(Value.int .i64 96)] (fun x8 w =>
 nilW x7 (fun x9 w =>
 addW 0 x9 (fun x10 w =>
 load1W x10 (fun x11 w =>
 CP Try.prog Fn.writes_Writes_All [x11] (fun x12 w =>
 CP Try.prog Fn.writes_Writes_Take [x8, x12] (fun x13 w =>
 load1W x1 (fun x14 w =>
 CP Try.prog Fn.writes_Writes_Take [x8, x14] (fun x15 w =>
 CP Try.prog Fn.writes_Writes_All [x8] (fun x16 w =>
 storeW 1 x1 x16 (fun _ w =>
 J w) w) w) w) w) w) w) w) w) w) w) (fun K w =>
 load1W x1 (fun x18 w =>
 K x18 w) w) (fun K w =>
 K (Value.slice none 0 0) w) K w) w) w) w) w) w

/-- levels_Levels_Frees -/
def S_levels_Levels_Frees (a0 : Value) (K : KV) : World → Prop := fun w =>
 nilW a0 (fun x1 w =>
 addW 1 x1 (fun x2 w =>
 load1W x2 (fun x3 w =>
 lenW x3 (fun x4 w =>
 loopW2 (Value.slice none 0 0) (Value.int .i64 0) (fun J1 x5 x6 w =>
 binIntW .lss x6 x4 (fun x7 w =>
 condP x7 (fun w => idxW 1 x3 x6 (fun x8 w =>
 load1W x8 (fun x9 w =>
 nilW x9 (fun x10 w =>
 addW 1 x10 (fun x11 w =>
 load1W x11 (fun x12 w =>
 appendW 1 8 x5 x12 (fun x13 w =>
 binIntW .add x6 (Value.int .i64 1) (fun x14 w =>
 J1 x13 x14 w) w) w) w) w) w) w) w) (fun w => K x5 w) w) w) w) w) w) w) w

/-- levels_Levels_Depth -/
def S_levels_Levels_Depth (a0 : Value) (K : KV) : World → Prop := fun w =>
 nilW a0 (fun x1 w =>
 addW 1 x1 (fun x2 w =>
 load1W x2 (fun x3 w =>
 lenW x3 (fun x4 w =>
 K x4 w) w) w) w) w

/-- slices_IndexFunc_api_Cell_api_Cell -/
def S_slices_IndexFunc_api_Cell_api_Cell (a0 a1 : Value) (K : KV) : World → Prop := fun w =>
 lenW a0 (fun x1 w =>
 loopW1 (Value.int .i64 0) (fun J1 x2 w =>
 binIntW .lss x2 x1 (fun x3 w =>
 condP x3 (fun w => idxW 2 a0 x2 (fun x4 w =>
 loadNW 2 x4 (fun x5 w =>
 dynW Try.prog a1 [x5] (fun x6 w =>
 condP x6 (fun w => K x2 w) (fun w => binIntW .add x2 (Value.int .i64 1) (fun x7 w =>
 J1 x7 w) w) w) w) w) w) (fun w => K (Value.int .i64 (-1)) w) w) w) w) w

/-- writes_Writes_find_1 -/
def S_writes_Writes_find_1 (a0 a1 : Value) (K : KV) : World → Prop := fun w =>
 boxW a0 (fun x1 w =>
 addW 0 x1 (fun x2 w =>
 load1W x2 (fun x3 w =>
 load1W a1 (fun x4 w =>
 binIntW .eql x3 x4 (fun x5 w =>
 K x5 w) w) w) w) w) w

/-- stripe_near -/
def S_stripe_near (a0 a1 : Value) (K : KV) : World → Prop := fun w =>
 minW a0 [a1] (fun x1 w =>
 maxW (Value.int .i64 1) [x1] (fun x2 w =>
 K x2 w) w) w

/-- math_bits_Len -/
def S_math_bits_Len (a0 : Value) (K : KV) : World → Prop := fun w =>
 condP (Value.bool false) (fun w => convW .u32 a0 (fun x1 w =>
 CP Try.prog Fn.math_bits_Len32 [x1] (fun x2 w =>
 K x2 w) w) w) (fun w => CP Try.prog Fn.math_bits_Len64 [a0] (fun x3 w =>
 K x3 w) w) w

/-- slices_Backward_levels_level_levels_level_1 -/
def S_slices_Backward_levels_level_levels_level_1 (a0 a1 : Value) (K : KV) : World → Prop := fun w =>
 load1W a1 (fun x1 w =>
 lenW x1 (fun x2 w =>
 binIntW .sub x2 (Value.int .i64 1) (fun x3 w =>
 loopW1 x3 (fun J1 x4 w =>
 binIntW .geq x4 (Value.int .i64 0) (fun x5 w =>
 condP x5 (fun w => load1W a1 (fun x6 w =>
 idxW 1 x6 x4 (fun x7 w =>
 load1W x7 (fun x8 w =>
 dynW Try.prog a0 [x4, x8] (fun x9 w =>
 notW x9 (fun x10 w =>
 condP x10 (fun w => K (Value.tuple #[]) w) (fun w => binIntW .sub x4 (Value.int .i64 1) (fun x11 w =>
 J1 x11 w) w) w) w) w) w) w) w) (fun w => K (Value.tuple #[]) w) w) w) w) w) w) w

/-- slices_insertionSortOrdered_int -/
def S_slices_insertionSortOrdered_int (a0 a1 a2 : Value) (K : KV) : World → Prop := fun w =>
 binIntW .add a1 (Value.int .i64 1) (fun x1 w =>
 loopW1 x1 (fun J1 x2 w =>
 binIntW .lss x2 a2 (fun x3 w =>
 condP x3 (fun w => loopW1 x2 (fun J2 x4 w =>
 drewW (fun w => binIntW .gtr x4 a1 (fun x5 w =>
 gW x5 true (fun K w => K a0 w) (fun x6 w =>
 gW x5 true (fun K w => K x4 w) (fun x7 w =>
 gW x5 true (fun K w => idxW 1 x6 x7 K w) (fun x8 w =>
 gW x5 true (fun K w => load1W x8 K w) (fun x9 w =>
 gW x5 true (fun K w => K a0 w) (fun x10 w =>
 gW x5 true (fun K w => K x4 w) (fun x11 w =>
 gW x5 true (fun K w => binIntW .sub x11 (Value.int .i64 1) K w) (fun x12 w =>
 gW x5 true (fun K w => idxW 1 x10 x12 K w) (fun x13 w =>
 gW x5 true (fun K w => load1W x13 K w) (fun x14 w =>
 gW x5 true (fun K w => CP Try.prog Fn.cmp_Less_int [x9, x14] K w) (fun x15 w =>
 andP (fun w => andP (fun w => trueP w) (fun w => andP (fun w => trueP w) (fun w => trueP w) w) w) (fun w =>
 pickW x5 x15 (Value.bool false) (fun x16 w =>
 condP x16 (fun w => drewW (fun w => binIntW .sub x4 (Value.int .i64 1) (fun x17 w =>
 binIntW .sub x4 (Value.int .i64 1) (fun x18 w =>
 idxW 1 a0 x18 (fun x19 w =>
 load1W x19 (fun x20 w =>
 idxW 1 a0 x4 (fun x21 w =>
 load1W x21 (fun x22 w =>
 idxW 1 a0 x4 (fun x23 w =>
 storeW 1 x23 x20 (fun _ w =>
 andP (fun w => andP (fun w => trueP w) (fun w => andP (fun w => trueP w) (fun w => trueP w) w) w) (fun w =>
 idxW 1 a0 x17 (fun x25 w =>
 storeW 1 x25 x22 (fun _ w =>
 andP (fun w => trueP w) (fun w =>
 binIntW .sub x4 (Value.int .i64 1) (fun x27 w =>
 J2 x27 w) w) w) w) w) w) w) w) w) w) w) w) w) w) w) (fun w => binIntW .add x2 (Value.int .i64 1) (fun x28 w =>
 J1 x28 w) w) w) w) w) w) w) w) w) w) w) w) w) w) w) w) w) w) (fun w => K (Value.tuple #[]) w) w) w) w) w

/-- cmp_Less_int -/
def S_cmp_Less_int (a0 a1 : Value) (K : KV) : World → Prop := fun w =>
 CP Try.prog Fn.cmp_isNaN_int [a0] (fun x1 w =>
 gW x1 true (fun K w => K a1 w) (fun x2 w =>
 gW x1 true (fun K w => CP Try.prog Fn.cmp_isNaN_int [x2] K w) (fun x3 w =>
 gW x1 true (fun K w => notW x3 K w) (fun x4 w =>
 pickW x1 x4 (Value.bool false) (fun x5 w =>
 gW x5 false (fun K w => K a0 w) (fun x6 w =>
 gW x5 false (fun K w => K a1 w) (fun x7 w =>
 gW x5 false (fun K w => binIntW .lss x6 x7 K w) (fun x8 w =>
 pickW x5 (Value.bool true) x8 (fun x9 w =>
 K x9 w) w) w) w) w) w) w) w) w) w

/-- slices_nextPowerOfTwo -/
def S_slices_nextPowerOfTwo (a0 : Value) (K : KV) : World → Prop := fun w =>
 convW .u64 a0 (fun x1 w =>
 CP Try.prog Fn.math_bits_Len [x1] (fun x2 w =>
 binIntW .shl (Value.int .u64 1) x2 (fun x3 w =>
 K x3 w) w) w) w

/-- slices_xorshift_Next -/
def S_slices_xorshift_Next (a0 : Value) (K : KV) : World → Prop := fun w =>
 drewW (fun w => nilW a0 (fun x1 w =>
 load1W x1 (fun x2 w =>
 nilW a0 (fun x3 w =>
 load1W x3 (fun x4 w =>
 binIntW .shl x4 (Value.int .u64 13) (fun x5 w =>
 binIntW .xor x2 x5 (fun x6 w =>
 nilW a0 (fun x7 w =>
 storeW 1 x7 x6 (fun _ w =>
 andP (fun w => andP (fun w => trueP w) (fun w => andP (fun w => trueP w) (fun w => trueP w) w) w) (fun w =>
 drewW (fun w => nilW a0 (fun x9 w =>
 load1W x9 (fun x10 w =>
 nilW a0 (fun x11 w =>
 load1W x11 (fun x12 w =>
 binIntW .shr x12 (Value.int .u64 7) (fun x13 w =>
 binIntW .xor x10 x13 (fun x14 w =>
 nilW a0 (fun x15 w =>
 storeW 1 x15 x14 (fun _ w =>
 andP (fun w => andP (fun w => trueP w) (fun w => andP (fun w => trueP w) (fun w => trueP w) w) w) (fun w =>
 drewW (fun w => nilW a0 (fun x17 w =>
 load1W x17 (fun x18 w =>
 nilW a0 (fun x19 w =>
 load1W x19 (fun x20 w =>
 binIntW .shl x20 (Value.int .u64 17) (fun x21 w =>
 binIntW .xor x18 x21 (fun x22 w =>
 nilW a0 (fun x23 w =>
 storeW 1 x23 x22 (fun _ w =>
 andP (fun w => andP (fun w => trueP w) (fun w => andP (fun w => trueP w) (fun w => trueP w) w) w) (fun w =>
 nilW a0 (fun x25 w =>
 load1W x25 (fun x26 w =>
 K x26 w) w) w) w) w) w) w) w) w) w) w) w) w) w) w) w) w) w) w) w) w) w) w) w) w) w) w) w) w) w) w) w) w

/-- cmp_isNaN_int -/
def S_cmp_isNaN_int (a0 : Value) (K : KV) : World → Prop := fun w =>
 binIntW .neq a0 a0 (fun x1 w =>
 K x1 w) w

end Go.Proofs.Ytlgdcfocnaifbaa.S
