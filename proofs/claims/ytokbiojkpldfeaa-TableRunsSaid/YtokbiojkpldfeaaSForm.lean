/-
  THE PLAIN FORMS OF THE FUNCTIONS, by a program.
-/
import Derived.Test.YtokbiojkpldfeaaG
import Derived.Test.YtokbiojkpldfeaaSIn
import Derived.Test.YtokbiojkpldfeaaProg
namespace Go.Proofs.Ytokbiojkpldfeaa.S
open Go Go.Proofs
set_option linter.unusedVariables false
set_option maxRecDepth 100000
abbrev Fn.gosem_cut_init : Nat := 2
abbrev Fn.law25_CommitRuns : Nat := 3
abbrev Fn.law25_CommitLets : Nat := 4
abbrev Fn.law25_CommitClock : Nat := 5
abbrev Fn.law18_TableRuns : Nat := 6
abbrev Fn.mem_New : Nat := 7
abbrev Fn.commit_New : Nat := 8
abbrev Fn.commit_Commit_Next : Nat := 9
abbrev Fn.commit_Commit_Writing : Nat := 10
abbrev Fn.commit_Commit_Tell : Nat := 11
abbrev Fn.mem_Mem_Do : Nat := 12
abbrev Fn.mem_Mem_Locks : Nat := 13
abbrev Fn.mem_Mem_Words : Nat := 14
abbrev Fn.commit_Commit_End : Nat := 15
abbrev Fn.commit_Commit_Stamp : Nat := 16
abbrev Fn.mem_Mem_Now : Nat := 17
abbrev Fn.ref7_Put : Nat := 18
abbrev Fn.book_Within : Nat := 19
abbrev Fn.ref1_Of : Nat := 20
abbrev Fn.law25_alone : Nat := 21
abbrev Fn.commit_Commit_By : Nat := 22
abbrev Fn.book_Same_api_Lock : Nat := 23
abbrev Fn.commit_Commit_Err : Nat := 24
abbrev Fn.view_Whole : Nat := 25
abbrev Fn.arena_Fresh : Nat := 26
abbrev Fn.table_Put : Nat := 27
abbrev Fn.table_Get : Nat := 28
abbrev Fn.table_All : Nat := 29
abbrev Fn.mem_Held : Nat := 30
abbrev Fn.heap_New : Nat := 31
abbrev Fn.stripe_New : Nat := 32
abbrev Fn.clock_New : Nat := 33
abbrev Fn.epoch_New : Nat := 34
abbrev Fn.patience_New : Nat := 35
abbrev Fn.slices_Clone_api_Seen_api_Seen : Nat := 36
abbrev Fn.slices_Clone_api_Cell_api_Cell : Nat := 37
abbrev Fn.writes_Stripes : Nat := 38
abbrev Fn.commit_Commit_more : Nat := 39
abbrev Fn.patience_Patience_End : Nat := 40
abbrev Fn.patience_Patience_Stopped : Nat := 41
abbrev Fn.commit_Commit_take : Nat := 42
abbrev Fn.commit_Commit_raise : Nat := 43
abbrev Fn.commit_Commit_proved : Nat := 44
abbrev Fn.commit_Commit_write : Nat := 45
abbrev Fn.commit_Commit_give : Nat := 46
abbrev Fn.commit_Commit_leave : Nat := 47
abbrev Fn.mem_Mem_do : Nat := 48
abbrev Fn.stripe_Table_All : Nat := 49
abbrev Fn.heap_Heap_All : Nat := 50
abbrev Fn.clock_Clock_Load : Nat := 51
abbrev Fn.ref7_Place : Nat := 52
abbrev Fn.ref1_Held : Nat := 53
abbrev Fn.patience_Patience_By : Nat := 54
abbrev Fn.patience_Patience_Err : Nat := 55
abbrev Fn.view_New : Nat := 56
abbrev Fn.view_View_Size : Nat := 57
abbrev Fn.view_View_Know : Nat := 58
abbrev Fn.draft_Do : Nat := 59
abbrev Fn.table_Put_1 : Nat := 60
abbrev Fn.table_open : Nat := 61
abbrev Fn.draft_Draft_OK : Nat := 62
abbrev Fn.table_made : Nat := 63
abbrev Fn.table_table_seek : Nat := 64
abbrev Fn.draft_Draft_Write : Nat := 65
abbrev Fn.table_table_grow : Nat := 66
abbrev Fn.draft_Draft_Alloc : Nat := 67
abbrev Fn.draft_Draft_Point : Nat := 68
abbrev Fn.table_Get_1 : Nat := 69
abbrev Fn.draft_Draft_Read : Nat := 70
abbrev Fn.table_All_1 : Nat := 71
abbrev Fn.table_table_each : Nat := 72
abbrev Fn.table_All_1_1 : Nat := 73
abbrev Fn.slices_SortFunc_api_Pair_api_Pair : Nat := 74
abbrev Fn.table_All_2 : Nat := 75
abbrev Fn.cmp_Compare_uint64 : Nat := 76
abbrev Fn.stripe_near : Nat := 77
abbrev Fn.stripe_Of : Nat := 78
abbrev Fn.slices_Sort_int_int : Nat := 79
abbrev Fn.slices_Compact_int_int : Nat := 80
abbrev Fn.patience_Patience_Stop : Nat := 81
abbrev Fn.commit_Commit_held : Nat := 82
abbrev Fn.commit_Commit_stop : Nat := 83
abbrev Fn.commit_Commit_begin : Nat := 84
abbrev Fn.commit_Commit_prove : Nat := 85
abbrev Fn.heap_Heap_Load : Nat := 86
abbrev Fn.heap_Heap_Store : Nat := 87
abbrev Fn.stripe_Table_Load : Nat := 88
abbrev Fn.stripe_Table_Cas : Nat := 89
abbrev Fn.stripe_Table_Store : Nat := 90
abbrev Fn.clock_Clock_Cas : Nat := 91
abbrev Fn.epoch_Slots_Load : Nat := 92
abbrev Fn.epoch_Slots_Store : Nat := 93
abbrev Fn.slices_Clone_api_Lock_api_Lock : Nat := 94
abbrev Fn.slices_Clone_uint64_uint64 : Nat := 95
abbrev Fn.levels_New : Nat := 96
abbrev Fn.view_View_is : Nat := 97
abbrev Fn.draft_of : Nat := 98
abbrev Fn.view_View_Read : Nat := 99
abbrev Fn.view_View_Need : Nat := 100
abbrev Fn.view_View_Take : Nat := 101
abbrev Fn.view_View_Cells : Nat := 102
abbrev Fn.view_View_Frees : Nat := 103
abbrev Fn.view_View_Free : Nat := 104
abbrev Fn.draft_Draft_Place : Nat := 105
abbrev Fn.draft_Draft_Fail : Nat := 106
abbrev Fn.table_chain : Nat := 107
abbrev Fn.draft_Draft_Step : Nat := 108
abbrev Fn.view_View_Write : Nat := 109
abbrev Fn.table_table_grow_1 : Nat := 110
abbrev Fn.draft_Draft_Free : Nat := 111
abbrev Fn.arena_Alloc : Nat := 112
abbrev Fn.slices_pdqsortCmpFunc_api_Pair : Nat := 113
abbrev Fn.math_bits_Len : Nat := 114
abbrev Fn.cmp_isNaN_uint64 : Nat := 115
abbrev Fn.slices_pdqsortOrdered_int : Nat := 116
abbrev Fn.patience_Patience_Waits : Nat := 117
abbrev Fn.slices_BinarySearch_int_int : Nat := 118
abbrev Fn.heap_Heap_is : Nat := 119
abbrev Fn.stripe_Table_is : Nat := 120
abbrev Fn.stripe_Table_may : Nat := 121
abbrev Fn.epoch_Slots_is : Nat := 122
abbrev Fn.levels_fresh : Nat := 123
abbrev Fn.view_View_Known : Nat := 124
abbrev Fn.levels_Levels_Get : Nat := 125
abbrev Fn.levels_Levels_Take : Nat := 126
abbrev Fn.levels_Levels_Cells : Nat := 127
abbrev Fn.levels_Levels_Frees : Nat := 128
abbrev Fn.levels_Levels_Free : Nat := 129
abbrev Fn.draft_Draft_Name : Nat := 130
abbrev Fn.levels_Levels_Put : Nat := 131
abbrev Fn.arena_Free : Nat := 132
abbrev Fn.arena_Class : Nat := 133
abbrev Fn.arena_head : Nat := 134
abbrev Fn.arena_again : Nat := 135
abbrev Fn.arena_grown : Nat := 136
abbrev Fn.slices_insertionSortCmpFunc_api_Pair : Nat := 137
abbrev Fn.slices_heapSortCmpFunc_api_Pair : Nat := 138
abbrev Fn.slices_breakPatternsCmpFunc_api_Pair : Nat := 139
abbrev Fn.slices_choosePivotCmpFunc_api_Pair : Nat := 140
abbrev Fn.slices_reverseRangeCmpFunc_api_Pair : Nat := 141
abbrev Fn.slices_partialInsertionSortCmpFunc_api_Pair : Nat := 142
abbrev Fn.slices_partitionEqualCmpFunc_api_Pair : Nat := 143
abbrev Fn.slices_partitionCmpFunc_api_Pair : Nat := 144
abbrev Fn.math_bits_Len32 : Nat := 145
abbrev Fn.math_bits_Len64 : Nat := 146
abbrev Fn.slices_insertionSortOrdered_int : Nat := 147
abbrev Fn.slices_heapSortOrdered_int : Nat := 148
abbrev Fn.slices_breakPatternsOrdered_int : Nat := 149
abbrev Fn.slices_choosePivotOrdered_int : Nat := 150
abbrev Fn.slices_reverseRangeOrdered_int : Nat := 151
abbrev Fn.slices_partialInsertionSortOrdered_int : Nat := 152
abbrev Fn.cmp_Less_int : Nat := 153
abbrev Fn.slices_partitionEqualOrdered_int : Nat := 154
abbrev Fn.slices_partitionOrdered_int : Nat := 155
abbrev Fn.slices_isNaN_int : Nat := 156
abbrev Fn.lock_Is : Nat := 157
abbrev Fn.writes_New : Nat := 158
abbrev Fn.slices_Backward_levels_level_levels_level : Nat := 159
abbrev Fn.writes_Writes_Get : Nat := 160
abbrev Fn.writes_Writes_Take : Nat := 161
abbrev Fn.levels_Levels_in : Nat := 162
abbrev Fn.writes_Writes_All : Nat := 163
abbrev Fn.levels_Levels_Room : Nat := 164
abbrev Fn.writes_Writes_Put : Nat := 165
abbrev Fn.arena_asked : Nat := 166
abbrev Fn.arena_Size : Nat := 167
abbrev Fn.slices_siftDownCmpFunc_api_Pair : Nat := 168
abbrev Fn.slices_nextPowerOfTwo : Nat := 169
abbrev Fn.slices_xorshift_Next : Nat := 170
abbrev Fn.slices_medianAdjacentCmpFunc_api_Pair : Nat := 171
abbrev Fn.slices_medianCmpFunc_api_Pair : Nat := 172
abbrev Fn.slices_siftDownOrdered_int : Nat := 173
abbrev Fn.slices_medianAdjacentOrdered_int : Nat := 174
abbrev Fn.slices_medianOrdered_int : Nat := 175
abbrev Fn.cmp_isNaN_int : Nat := 176
abbrev Fn.lock_owns : Nat := 177
abbrev Fn.slices_Backward_levels_level_levels_level_1 : Nat := 178
abbrev Fn.writes_Writes_find : Nat := 179
abbrev Fn.writes_Writes_Len : Nat := 180
abbrev Fn.arena_header : Nat := 181
abbrev Fn.slices_order2CmpFunc_api_Pair : Nat := 182
abbrev Fn.slices_order2Ordered_int : Nat := 183
abbrev Fn.slices_IndexFunc_api_Cell_api_Cell : Nat := 184
abbrev Fn.writes_Writes_find_1 : Nat := 185

/-- law18_TableRuns -/
def S_law18_TableRuns (K : KV) : World → Prop :=
  CP Try.prog Fn.arena_Fresh [(Value.int .i64 100)] (fun x1 => CP Try.prog Fn.view_Whole [x1, (Value.int .i64 96)] (fun x2 => eqNilW .eql x2 (Value.pointer none) (fun x3 => condP x3 (K (Value.bool false)) (CP Try.prog Fn.table_Put [x2, (Value.int .i64 6), (Value.int .u64 9), (Value.int .u64 1)] (fun x4 => extractW 0 x4 (fun x5 => extractW 1 x4 (fun x6 => CP Try.prog Fn.table_Put [x2, (Value.int .i64 6), (Value.int .u64 9), (Value.int .u64 2)] (fun x7 => extractW 0 x7 (fun x8 => extractW 1 x7 (fun x9 => CP Try.prog Fn.table_Get [x2, (Value.int .i64 6), (Value.int .u64 9)] (fun x10 => extractW 0 x10 (fun x11 => extractW 1 x10 (fun x12 => extractW 2 x10 (fun x13 => CP Try.prog Fn.table_All [x2, (Value.int .i64 6)] (fun x14 => extractW 0 x14 (fun x15 => extractW 1 x14 (fun x16 => CP Try.prog Fn.table_Get [x2, (Value.int .i64 5), (Value.int .u64 9)] (fun x17 => extractW 0 x17 (fun x18 => extractW 1 x17 (fun x19 => extractW 2 x17 (fun x20 => gW x5 true (fun K => K x6) (fun x21 => gW x5 true (fun K => binIntW .eql x21 (Value.int .i64 0) K) (fun x22 => pickW x5 x22 (Value.bool false) (fun x23 => gW x23 true (fun K => K x8) (fun x24 => gW x23 true (fun K => notW x24 K) (fun x25 => pickW x23 x25 (Value.bool false) (fun x26 => gW x26 true (fun K => K x9) (fun x27 => gW x26 true (fun K => binIntW .eql x27 (Value.int .i64 0) K) (fun x28 => pickW x26 x28 (Value.bool false) (fun x29 => gW x29 true (fun K => K x11) (fun x30 => gW x29 true (fun K => binIntW .eql x30 (Value.int .u64 2) K) (fun x31 => pickW x29 x31 (Value.bool false) (fun x32 => gW x32 true (fun K => K x12) (fun x33 => pickW x32 x33 (Value.bool false) (fun x34 => gW x34 true (fun K => K x13) (fun x35 => gW x34 true (fun K => binIntW .eql x35 (Value.int .i64 0) K) (fun x36 => pickW x34 x36 (Value.bool false) (fun x37 => gW x37 true (fun K => K x16) (fun x38 => gW x37 true (fun K => binIntW .eql x38 (Value.int .i64 0) K) (fun x39 => pickW x37 x39 (Value.bool false) (fun x40 => gW x40 true (fun K => K x15) (fun x41 => gW x40 true (fun K => lenW x41 K) (fun x42 => gW x40 true (fun K => binIntW .eql x42 (Value.int .i64 1) K) (fun x43 => pickW x40 x43 (Value.bool false) (fun x44 => gW x44 true (fun K => K x15) (fun x45 => gW x44 true (fun K => idxW 2 x45 (Value.int .i64 0) K) (fun x46 => gW x44 true (fun K => loadNW 2 x46 K) (fun x47 => gW x44 true (fun K => buildW [(Value.int .u64 0), (Value.int .u64 0)] [(0, 1, (Value.int .u64 9)), (1, 1, (Value.int .u64 2))] K) (fun x48 => gW x44 true (fun K => eqAggW [.i .u64, .i .u64] .eql x47 x48 K) (fun x49 => pickW x44 x49 (Value.bool false) (fun x50 => gW x50 true (fun K => K x20) (fun x51 => gW x50 true (fun K => binIntW .eql x51 (Value.int .i64 2) K) (fun x52 => pickW x50 x52 (Value.bool false) (fun x53 => K x53))))))))))))))))))))))))))))))))))))))))))))))))))))))

/-- view_Whole -/
def S_view_Whole (a0 a1 : Value) (K : KV) : World → Prop :=
  lenW a0 (fun x1 => CP Try.prog Fn.view_New [x1, a1] (fun x2 => loopW1 (Value.int .i64 1) (fun J1 x3 => CP Try.prog Fn.view_View_Size [x2] (fun x4 => binIntW .lss x3 x4 (fun x5 => condP x5 (lenW a0 (fun x6 => binIntW .lss x3 x6 (fun x7 => joinW1 (fun x8 => CP Try.prog Fn.view_View_Know [x2, x3, x8] (fun x9 => binIntW .add x3 (Value.int .i64 1) (fun x10 => J1 x10))) (fun j1 => condP x7 (idxW 1 a0 x3 (fun x11 => load1W x11 (fun x12 => j1 x12))) (j1 (Value.int .u64 0)))))) (K x2))))))

/-- arena_Fresh -/
def S_arena_Fresh (a0 : Value) (K : KV) : World → Prop :=
  minW a0 [(Value.int .i64 256)] (fun x1 => maxW (Value.int .i64 32) [x1] (fun x2 => makeSliceW 8 [(Value.int .u64 0)] x2 x2 (fun x3 => idxW 1 x3 (Value.int .i64 5) (fun x4 => storeW 1 x4 (Value.int .u64 14) (fun _ => K x3)))))

/-- table_Put -/
def S_table_Put (a0 a1 a2 a3 : Value) (K : KV) : World → Prop :=
  boxW a1 (fun x1 => boxW a2 (fun x2 => boxW a3 (fun x3 => newW #[(Value.bool false)] (fun x4 => storeW 1 x4 (Value.bool false) (fun _ => load1W x1 (fun x6 => CP Try.prog Fn.draft_Do [a0, x6, (Value.func (.func Fn.table_Put_1) #[] #[x1, x2, x3, x4])] (fun x7 => load1W x4 (fun x8 => gW x8 true (fun K => K x7) (fun x9 => gW x8 true (fun K => binIntW .eql x9 (Value.int .i64 0) K) (fun x10 => pickW x8 x10 (Value.bool false) (fun x11 => K (Value.tuple #[x11, x7]))))))))))))

/-- table_Get -/
def S_table_Get (a0 a1 a2 : Value) (K : KV) : World → Prop :=
  boxW a1 (fun x1 => boxW a2 (fun x2 => newW #[(Value.int .u64 0)] (fun x3 => newW #[(Value.bool false)] (fun x4 => storeW 1 x3 (Value.int .u64 0) (fun _ => storeW 1 x4 (Value.bool false) (fun _ => load1W x1 (fun x7 => CP Try.prog Fn.draft_Do [a0, x7, (Value.func (.func Fn.table_Get_1) #[] #[x1, x2, x3, x4])] (fun x8 => binIntW .neq x8 (Value.int .i64 0) (fun x9 => condP x9 (K (Value.tuple #[(Value.int .u64 0), (Value.bool false), x8])) (drewW (load1W x3 (fun x10 => load1W x4 (fun x11 => K (Value.tuple #[x10, x11, (Value.int .i64 0)]))))))))))))))

/-- table_All -/
def S_table_All (a0 a1 : Value) (K : KV) : World → Prop :=
  boxW a1 (fun x1 => newW #[(Value.slice none 0 0)] (fun x2 => load1W x1 (fun x3 => CP Try.prog Fn.draft_Do [a0, x3, (Value.func (.func Fn.table_All_1) #[] #[x1, x2])] (fun x4 => binIntW .neq x4 (Value.int .i64 0) (fun x5 => condP x5 (K (Value.tuple #[(Value.slice none 0 0), x4])) (load1W x2 (fun x6 => CP Try.prog Fn.slices_SortFunc_api_Pair_api_Pair [x6, (Value.func (.func Fn.table_All_2) #[] #[])] (fun x7 => load1W x2 (fun x8 => K (Value.tuple #[x8, (Value.int .i64 0)]))))))))))

/-- slices_Clone_api_Cell_api_Cell -/
def S_slices_Clone_api_Cell_api_Cell (a0 : Value) (K : KV) : World → Prop :=
  eqNilSliceW .eql a0 (Value.slice none 0 0) (fun x1 => condP x1 (K (Value.slice none 0 0)) (buildSliceW [(Value.int .i64 0), (Value.int .u64 0)] 0 [] (fun x2 => appendW 2 16 x2 a0 (fun x3 => K x3))))

/-- view_New -/
def S_view_New (a0 a1 : Value) (K : KV) : World → Prop :=
  drewW (minW a0 [(Value.int .i64 256)] (fun x1 => maxW (Value.int .i64 32) [x1] (fun x2 => andP (makeSliceW 16 [(Value.int .u64 0), (Value.bool false)] x2 x2 (fun x3 => andP (trueP) (CP Try.prog Fn.levels_New [a1] (fun x4 => andP (trueP) (buildW [(Value.slice none 0 0), (Value.slice none 0 0), (Value.pointer none), (Value.int .i64 0)] [(0, 1, x3), (2, 1, x4)] (fun x5 => boxW x5 (fun x6 => andP (trueP) (K x6)))))))) (CP Try.prog Fn.levels_New [a1] (fun x7 => andP (trueP) (makeSliceW 16 [(Value.int .u64 0), (Value.bool false)] x2 x2 (fun x8 => andP (trueP) (buildW [(Value.slice none 0 0), (Value.slice none 0 0), (Value.pointer none), (Value.int .i64 0)] [(0, 1, x8), (2, 1, x7)] (fun x9 => boxW x9 (fun x10 => andP (trueP) (K x10)))))))))))

/-- view_View_Size -/
def S_view_View_Size (a0 : Value) (K : KV) : World → Prop :=
  nilW a0 (fun x1 => addW 0 x1 (fun x2 => load1W x2 (fun x3 => lenW x3 (fun x4 => K x4))))

/-- view_View_Know -/
def S_view_View_Know (a0 a1 a2 : Value) (K : KV) : World → Prop :=
  CP Try.prog Fn.view_View_is [a0, a1] (fun x1 => notW x1 (fun x2 => condP x2 (K (Value.int .i64 2)) (nilW a0 (fun x3 => addW 0 x3 (fun x4 => load1W x4 (fun x5 => idxW 2 x5 a1 (fun x6 => loadNW 2 x6 (fun x7 => newW #[(Value.int .u64 0), (Value.bool false)] (fun x8 => storeW 2 x8 x7 (fun _ => addW 1 x8 (fun x10 => load1W x10 (fun x11 => condP x11 (addW 0 x8 (fun x12 => load1W x12 (fun x13 => binIntW .neq x13 a2 (fun x14 => condP x14 (K (Value.int .i64 14)) (K (Value.int .i64 0)))))) (nilW a0 (fun x15 => addW 0 x15 (fun x16 => load1W x16 (fun x17 => buildW [(Value.int .u64 0), (Value.bool false)] [(0, 1, a2), (1, 1, (Value.bool true))] (fun x18 => idxW 2 x17 a1 (fun x19 => storeW 2 x19 x18 (fun _ => nilW a0 (fun x21 => addW 1 x21 (fun x22 => load1W x22 (fun x23 => buildSliceW [(Value.int .i64 0)] 1 [(0, 1, a1)] (fun x24 => appendW 1 8 x23 x24 (fun x25 => nilW a0 (fun x26 => addW 1 x26 (fun x27 => storeW 1 x27 x25 (fun _ => K (Value.int .i64 0))))))))))))))))))))))))))))

/-- draft_Do -/
def S_draft_Do (a0 a1 a2 : Value) (K : KV) : World → Prop :=
  binIntW .lss a1 (Value.int .i64 6) (fun x1 => gW x1 false (fun K => K a1) (fun x2 => gW x1 false (fun K => binIntW .geq x2 (Value.int .i64 14) K) (fun x3 => pickW x1 (Value.bool true) x3 (fun x4 => condP x4 (K (Value.int .i64 2)) (CP Try.prog Fn.draft_of [a0] (fun x5 => buildW [(Value.pointer none), (Value.int .i64 0), (Value.int .i64 0)] [(0, 1, x5)] (fun x6 => boxW x6 (fun x7 => dynW Try.prog a2 [x7] (fun x8 => nilW x7 (fun x9 => addW 1 x9 (fun x10 => load1W x10 (fun x11 => binIntW .eql x11 (Value.int .i64 11) (fun x12 => condP x12 (nilW x7 (fun x13 => addW 0 x13 (fun x14 => load1W x14 (fun x15 => CP Try.prog Fn.view_View_Need [x15] (fun x16 => CP Try.prog Fn.view_View_Read [a0, x16] (fun x17 => extractW 0 x17 (fun x18 => extractW 1 x17 (fun x19 => K x19)))))))) (nilW x7 (fun x20 => addW 1 x20 (fun x21 => load1W x21 (fun x22 => binIntW .neq x22 (Value.int .i64 0) (fun x23 => condP x23 (nilW x7 (fun x24 => addW 1 x24 (fun x25 => load1W x25 (fun x26 => K x26)))) (nilW x7 (fun x27 => addW 0 x27 (fun x28 => load1W x28 (fun x29 => CP Try.prog Fn.view_View_Cells [x29] (fun x30 => CP Try.prog Fn.view_View_Take [a0, x30] (fun x31 => binIntW .neq x31 (Value.int .i64 0) (fun x32 => condP x32 (K x31) (nilW x7 (fun x33 => addW 0 x33 (fun x34 => load1W x34 (fun x35 => CP Try.prog Fn.view_View_Frees [x35] (fun x36 => lenW x36 (fun x37 => loopW1 (Value.int .i64 0) (fun J1 x38 => binIntW .lss x38 x37 (fun x39 => condP x39 (idxW 1 x36 x38 (fun x40 => load1W x40 (fun x41 => CP Try.prog Fn.view_View_Free [a0, x41] (fun x42 => binIntW .add x38 (Value.int .i64 1) (fun x43 => J1 x43))))) (K (Value.int .i64 0)))))))))))))))))))))))))))))))))))

/-- table_Put_1 -/
def S_table_Put_1 (a0 a1 a2 a3 a4 : Value) (K : KV) : World → Prop :=
  load1W a1 (fun x1 => CP Try.prog Fn.table_open [a0, x1] (fun x2 => CP Try.prog Fn.draft_Draft_OK [a0] (fun x3 => gW x3 true (fun K => K x2) (fun x4 => gW x3 true (fun K => nilW x4 K) (fun x5 => gW x3 true (fun K => addW 1 x5 K) (fun x6 => gW x3 true (fun K => load1W x6 K) (fun x7 => gW x3 true (fun K => binIntW .eql x7 (Value.int .i64 0) K) (fun x8 => pickW x3 x8 (Value.bool false) (fun x9 => joinW1 (fun x10 => CP Try.prog Fn.draft_Draft_OK [a0] (fun x11 => notW x11 (fun x12 => condP x12 (K (Value.tuple #[])) (load1W a2 (fun x13 => CP Try.prog Fn.table_table_seek [x10, x13] (fun x14 => extractW 0 x14 (fun x15 => extractW 1 x14 (fun x16 => binIntW .neq x16 (Value.int .i64 0) (fun x17 => condP x17 (binIntW .add x16 (Value.int .i64 1) (fun x18 => load1W a3 (fun x19 => CP Try.prog Fn.draft_Draft_Write [a0, x18, x19] (fun x20 => K (Value.tuple #[]))))) (drewW (CP Try.prog Fn.draft_Draft_OK [a0] (fun x21 => andP (trueP) (gW x21 true (fun K => K x10) (fun x22 => gW x21 true (fun K => nilW x22 K) (fun x23 => gW x21 true (fun K => addW 4 x23 K) (fun x24 => gW x21 true (fun K => load1W x24 K) (fun x25 => gW x21 true (fun K => K x10) (fun x26 => gW x21 true (fun K => nilW x26 K) (fun x27 => gW x21 true (fun K => addW 2 x27 K) (fun x28 => gW x21 true (fun K => load1W x28 K) (fun x29 => gW x21 true (fun K => convW .u64 x29 K) (fun x30 => gW x21 true (fun K => binIntW .geq x25 x30 K) (fun x31 => pickW x21 x31 (Value.bool false) (fun x32 => gW x32 true (fun K => K x10) (fun x33 => gW x32 true (fun K => nilW x33 K) (fun x34 => gW x32 true (fun K => addW 2 x34 K) (fun x35 => gW x32 true (fun K => load1W x35 K) (fun x36 => gW x32 true (fun K => binIntW .lss x36 (Value.int .i64 16) K) (fun x37 => pickW x32 x37 (Value.bool false) (fun x38 => joinW1 (fun x39 => CP Try.prog Fn.draft_Draft_Alloc [a0, (Value.int .i64 3)] (fun x40 => binIntW .add x40 (Value.int .i64 0) (fun x41 => load1W a2 (fun x42 => CP Try.prog Fn.draft_Draft_Write [a0, x41, x42] (fun x43 => binIntW .add x40 (Value.int .i64 1) (fun x44 => load1W a3 (fun x45 => CP Try.prog Fn.draft_Draft_Write [a0, x44, x45] (fun x46 => binIntW .add x40 (Value.int .i64 2) (fun x47 => CP Try.prog Fn.draft_Draft_Point [a0, x47, (Value.int .i64 0)] (fun x48 => CP Try.prog Fn.draft_Draft_Point [a0, x39, x40] (fun x49 => drewW (nilW x10 (fun x50 => addW 1 x50 (fun x51 => load1W x51 (fun x52 => binIntW .add x52 (Value.int .i64 0) (fun x53 => nilW x10 (fun x54 => addW 4 x54 (fun x55 => load1W x55 (fun x56 => binIntW .add x56 (Value.int .u64 1) (fun x57 => CP Try.prog Fn.draft_Draft_Write [a0, x53, x57] (fun x58 => andP (andP (trueP) (andP (trueP) (trueP))) (storeW 1 a4 (Value.bool true) (fun _ => K (Value.tuple #[])))))))))))))))))))))))) (fun j2 => condP x38 (CP Try.prog Fn.table_table_grow [x10] (fun x60 => load1W a2 (fun x61 => CP Try.prog Fn.table_table_seek [x10, x61] (fun x62 => extractW 0 x62 (fun x63 => extractW 1 x62 (fun x64 => j2 x63)))))) (j2 x15)))))))))))))))))))))))))))))))) (fun j1 => condP x9 (load1W a1 (fun x65 => CP Try.prog Fn.table_made [a0, x65] (fun x66 => j1 x66))) (j1 x2)))))))))))

/-- table_open -/
def S_table_open (a0 a1 : Value) (K : KV) : World → Prop :=
  CP Try.prog Fn.draft_Draft_Place [a0, a1] (fun x1 => buildW [(Value.pointer none), (Value.int .i64 0), (Value.int .i64 0), (Value.int .i64 0), (Value.int .u64 0)] [(0, 1, a0), (1, 1, x1)] (fun x2 => boxW x2 (fun x3 => nilW x3 (fun x4 => addW 1 x4 (fun x5 => load1W x5 (fun x6 => binIntW .eql x6 (Value.int .i64 0) (fun x7 => condP x7 (K x3) (nilW x3 (fun x8 => addW 1 x8 (fun x9 => load1W x9 (fun x10 => binIntW .add x10 (Value.int .i64 0) (fun x11 => CP Try.prog Fn.draft_Draft_Read [a0, x11] (fun x12 => nilW x3 (fun x13 => addW 4 x13 (fun x14 => storeW 1 x14 x12 (fun _ => nilW x3 (fun x16 => addW 1 x16 (fun x17 => load1W x17 (fun x18 => binIntW .add x18 (Value.int .i64 1) (fun x19 => CP Try.prog Fn.draft_Draft_Read [a0, x19] (fun x20 => binIntW .lss x20 (Value.int .u64 2) (fun x21 => gW x21 false (fun K => K x20) (fun x22 => gW x21 false (fun K => binIntW .gtr x22 (Value.int .u64 16) K) (fun x23 => pickW x21 (Value.bool true) x23 (fun x24 => gW x24 false (fun K => K x20) (fun x25 => gW x24 false (fun K => K x20) (fun x26 => gW x24 false (fun K => binIntW .sub x26 (Value.int .u64 1) K) (fun x27 => gW x24 false (fun K => binIntW .and x25 x27 K) (fun x28 => gW x24 false (fun K => binIntW .neq x28 (Value.int .u64 0) K) (fun x29 => pickW x24 (Value.bool true) x29 (fun x30 => joinW1 (fun x31 => convW .i64 x31 (fun x32 => nilW x3 (fun x33 => addW 1 x33 (fun x34 => load1W x34 (fun x35 => binIntW .add x35 (Value.int .i64 2) (fun x36 => CP Try.prog Fn.draft_Draft_Place [a0, x36] (fun x37 => nilW x3 (fun x38 => addW 2 x38 (fun x39 => storeW 1 x39 x32 (fun _ => nilW x3 (fun x41 => addW 3 x41 (fun x42 => storeW 1 x42 x37 (fun _ => K x3))))))))))))) (fun j1 => condP x30 (CP Try.prog Fn.draft_Draft_Fail [a0, (Value.int .i64 2)] (fun x44 => j1 (Value.int .u64 2))) (j1 x20)))))))))))))))))))))))))))))))))

/-- draft_Draft_OK -/
def S_draft_Draft_OK (a0 : Value) (K : KV) : World → Prop :=
  nilW a0 (fun x1 => addW 1 x1 (fun x2 => load1W x2 (fun x3 => binIntW .eql x3 (Value.int .i64 0) (fun x4 => K x4))))

/-- table_made -/
def S_table_made (a0 a1 : Value) (K : KV) : World → Prop :=
  CP Try.prog Fn.draft_Draft_Alloc [a0, (Value.int .i64 3)] (fun x1 => CP Try.prog Fn.draft_Draft_Alloc [a0, (Value.int .i64 2)] (fun x2 => buildW [(Value.pointer none), (Value.int .i64 0), (Value.int .i64 0), (Value.int .i64 0), (Value.int .u64 0)] [(0, 1, a0), (1, 1, x1), (2, 1, (Value.int .i64 2)), (3, 1, x2)] (fun x3 => boxW x3 (fun x4 => loopW1 (Value.int .i64 0) (fun J1 x5 => binIntW .lss x5 (Value.int .i64 2) (fun x6 => condP x6 (nilW x4 (fun x7 => addW 3 x7 (fun x8 => load1W x8 (fun x9 => binIntW .add x9 x5 (fun x10 => CP Try.prog Fn.draft_Draft_Point [a0, x10, (Value.int .i64 0)] (fun x11 => binIntW .add x5 (Value.int .i64 1) (fun x12 => J1 x12))))))) (nilW x4 (fun x13 => addW 1 x13 (fun x14 => load1W x14 (fun x15 => binIntW .add x15 (Value.int .i64 0) (fun x16 => CP Try.prog Fn.draft_Draft_Point [a0, x16, (Value.int .i64 0)] (fun x17 => nilW x4 (fun x18 => addW 1 x18 (fun x19 => load1W x19 (fun x20 => binIntW .add x20 (Value.int .i64 1) (fun x21 => CP Try.prog Fn.draft_Draft_Point [a0, x21, (Value.int .i64 2)] (fun x22 => drewW (nilW x4 (fun x23 => addW 1 x23 (fun x24 => load1W x24 (fun x25 => binIntW .add x25 (Value.int .i64 2) (fun x26 => nilW x4 (fun x27 => addW 3 x27 (fun x28 => load1W x28 (fun x29 => CP Try.prog Fn.draft_Draft_Point [a0, x26, x29] (fun x30 => andP (andP (trueP) (andP (trueP) (trueP))) (nilW x4 (fun x31 => addW 1 x31 (fun x32 => load1W x32 (fun x33 => CP Try.prog Fn.draft_Draft_Point [a0, a1, x33] (fun x34 => K x4)))))))))))))))))))))))))))))))

/-- table_table_seek -/
def S_table_table_seek (a0 a1 : Value) (K : KV) : World → Prop :=
  drewW (nilW a0 (fun x1 => addW 3 x1 (fun x2 => load1W x2 (fun x3 => nilW a0 (fun x4 => addW 2 x4 (fun x5 => load1W x5 (fun x6 => CP Try.prog Fn.table_chain [a1, x6] (fun x7 => andP (andP (trueP) (andP (load1W x2 (fun v => eqP v x3)) (trueP))) (binIntW .add x3 x7 (fun x8 => loopW1 x8 (fun J1 x9 => nilW a0 (fun x10 => addW 0 x10 (fun x11 => load1W x11 (fun x12 => CP Try.prog Fn.draft_Draft_Step [x12] (fun x13 => condP x13 (nilW a0 (fun x14 => addW 0 x14 (fun x15 => load1W x15 (fun x16 => CP Try.prog Fn.draft_Draft_Place [x16, x9] (fun x17 => binIntW .eql x17 (Value.int .i64 0) (fun x18 => gW x18 false (fun K => K a0) (fun x19 => gW x18 false (fun K => nilW x19 K) (fun x20 => gW x18 false (fun K => addW 0 x20 K) (fun x21 => gW x18 false (fun K => load1W x21 K) (fun x22 => gW x18 false (fun K => K x17) (fun x23 => gW x18 false (fun K => binIntW .add x23 (Value.int .i64 0) K) (fun x24 => gW x18 false (fun K => CP Try.prog Fn.draft_Draft_Read [x22, x24] K) (fun x25 => gW x18 false (fun K => K a1) (fun x26 => gW x18 false (fun K => binIntW .eql x25 x26 K) (fun x27 => pickW x18 (Value.bool true) x27 (fun x28 => condP x28 (K (Value.tuple #[x9, x17])) (binIntW .add x17 (Value.int .i64 2) (fun x29 => J1 x29)))))))))))))))))) (K (Value.tuple #[x9, (Value.int .i64 0)])))))))))))))))))

/-- draft_Draft_Write -/
def S_draft_Draft_Write (a0 a1 a2 : Value) (K : KV) : World → Prop :=
  CP Try.prog Fn.draft_Draft_OK [a0] (fun x1 => joinW0 (K (Value.tuple #[])) (fun j1 => condP x1 (nilW a0 (fun x2 => addW 0 x2 (fun x3 => load1W x3 (fun x4 => CP Try.prog Fn.view_View_Write [x4, a1, a2] (fun x5 => CP Try.prog Fn.draft_Draft_Fail [a0, x5] (fun x6 => j1)))))) (j1)))

/-- table_table_grow -/
def S_table_table_grow (a0 : Value) (K : KV) : World → Prop :=
  boxW a0 (fun x1 => load1W x1 (fun x2 => nilW x2 (fun x3 => addW 2 x3 (fun x4 => load1W x4 (fun x5 => binIntW .mul (Value.int .i64 2) x5 (fun x6 => newW #[(Value.int .i64 0)] (fun x7 => storeW 1 x7 x6 (fun _ => load1W x7 (fun x9 => makeSliceW 8 [(Value.int .i64 0)] x9 x9 (fun x10 => newW #[(Value.slice none 0 0)] (fun x11 => storeW 1 x11 x10 (fun _ => drewW (load1W x1 (fun x13 => nilW x13 (fun x14 => addW 0 x14 (fun x15 => load1W x15 (fun x16 => load1W x7 (fun x17 => CP Try.prog Fn.draft_Draft_Alloc [x16, x17] (fun x18 => andP (andP (trueP) (andP (trueP) (andP (trueP) (trueP)))) (load1W x1 (fun x19 => CP Try.prog Fn.table_table_each [x19, (Value.func (.func Fn.table_table_grow_1) #[] #[x1, x7, x11])] (fun x20 => load1W x11 (fun x21 => lenW x21 (fun x22 => loopW1 (Value.int .i64 0) (fun J1 x23 => binIntW .lss x23 x22 (fun x24 => condP x24 (idxW 1 x21 x23 (fun x25 => load1W x25 (fun x26 => load1W x1 (fun x27 => nilW x27 (fun x28 => addW 0 x28 (fun x29 => load1W x29 (fun x30 => binIntW .add x18 x23 (fun x31 => CP Try.prog Fn.draft_Draft_Point [x30, x31, x26] (fun x32 => binIntW .add x23 (Value.int .i64 1) (fun x33 => J1 x33)))))))))) (drewW (load1W x1 (fun x34 => nilW x34 (fun x35 => addW 0 x35 (fun x36 => load1W x36 (fun x37 => load1W x1 (fun x38 => nilW x38 (fun x39 => addW 3 x39 (fun x40 => load1W x40 (fun x41 => CP Try.prog Fn.draft_Draft_Free [x37, x41] (fun x42 => andP (andP (trueP) (andP (trueP) (andP (trueP) (andP (trueP) (trueP))))) (drewW (load1W x1 (fun x43 => load1W x1 (fun x44 => load1W x7 (fun x45 => nilW x43 (fun x46 => addW 2 x46 (fun x47 => storeW 1 x47 x45 (fun _ => andP (andP (trueP) (andP (load1W x1 (fun v => eqP v x44)) (andP (trueP) (trueP)))) (nilW x44 (fun x49 => addW 3 x49 (fun x50 => storeW 1 x50 x18 (fun _ => andP (andP (trueP) (trueP)) (drewW (load1W x1 (fun x52 => nilW x52 (fun x53 => addW 0 x53 (fun x54 => load1W x54 (fun x55 => load1W x1 (fun x56 => nilW x56 (fun x57 => addW 1 x57 (fun x58 => load1W x58 (fun x59 => binIntW .add x59 (Value.int .i64 1) (fun x60 => load1W x7 (fun x61 => CP Try.prog Fn.draft_Draft_Point [x55, x60, x61] (fun x62 => andP (andP (trueP) (andP (trueP) (andP (trueP) (andP (trueP) (andP (trueP) (trueP)))))) (drewW (load1W x1 (fun x63 => nilW x63 (fun x64 => addW 0 x64 (fun x65 => load1W x65 (fun x66 => load1W x1 (fun x67 => nilW x67 (fun x68 => addW 1 x68 (fun x69 => load1W x69 (fun x70 => binIntW .add x70 (Value.int .i64 2) (fun x71 => CP Try.prog Fn.draft_Draft_Point [x66, x71, x18] (fun x72 => andP (andP (trueP) (andP (trueP) (andP (trueP) (andP (trueP) (trueP))))) (K (Value.tuple #[]))))))))))))))))))))))))))))))))))))))))))))))))))))))))))))))))))))))))))))

/-- draft_Draft_Alloc -/
def S_draft_Draft_Alloc (a0 a1 : Value) (K : KV) : World → Prop :=
  CP Try.prog Fn.draft_Draft_OK [a0] (fun x1 => notW x1 (fun x2 => condP x2 (K (Value.int .i64 0)) (nilW a0 (fun x3 => addW 0 x3 (fun x4 => load1W x4 (fun x5 => CP Try.prog Fn.arena_Alloc [x5, a1] (fun x6 => extractW 0 x6 (fun x7 => extractW 1 x6 (fun x8 => CP Try.prog Fn.draft_Draft_Fail [a0, x8] (fun x9 => K x7))))))))))

/-- draft_Draft_Point -/
def S_draft_Draft_Point (a0 a1 a2 : Value) (K : KV) : World → Prop :=
  convW .u64 a2 (fun x1 => CP Try.prog Fn.draft_Draft_Write [a0, a1, x1] (fun x2 => K (Value.tuple #[])))

/-- table_Get_1 -/
def S_table_Get_1 (a0 a1 a2 a3 a4 : Value) (K : KV) : World → Prop :=
  load1W a1 (fun x1 => CP Try.prog Fn.table_open [a0, x1] (fun x2 => CP Try.prog Fn.draft_Draft_OK [a0] (fun x3 => notW x3 (fun x4 => gW x4 false (fun K => K x2) (fun x5 => gW x4 false (fun K => nilW x5 K) (fun x6 => gW x4 false (fun K => addW 1 x6 K) (fun x7 => gW x4 false (fun K => load1W x7 K) (fun x8 => gW x4 false (fun K => binIntW .eql x8 (Value.int .i64 0) K) (fun x9 => pickW x4 (Value.bool true) x9 (fun x10 => condP x10 (K (Value.tuple #[])) (load1W a2 (fun x11 => CP Try.prog Fn.table_table_seek [x2, x11] (fun x12 => extractW 0 x12 (fun x13 => extractW 1 x12 (fun x14 => binIntW .neq x14 (Value.int .i64 0) (fun x15 => joinW0 (K (Value.tuple #[])) (fun j1 => condP x15 (binIntW .add x14 (Value.int .i64 1) (fun x16 => CP Try.prog Fn.draft_Draft_Read [a0, x16] (fun x17 => storeW 1 a3 x17 (fun _ => storeW 1 a4 (Value.bool true) (fun _ => j1))))) (j1))))))))))))))))))

/-- draft_Draft_Read -/
def S_draft_Draft_Read (a0 a1 : Value) (K : KV) : World → Prop :=
  CP Try.prog Fn.draft_Draft_OK [a0] (fun x1 => notW x1 (fun x2 => condP x2 (K (Value.int .u64 0)) (nilW a0 (fun x3 => addW 0 x3 (fun x4 => load1W x4 (fun x5 => CP Try.prog Fn.view_View_Read [x5, a1] (fun x6 => extractW 0 x6 (fun x7 => extractW 1 x6 (fun x8 => CP Try.prog Fn.draft_Draft_Fail [a0, x8] (fun x9 => K x7))))))))))

/-- table_All_1 -/
def S_table_All_1 (a0 a1 a2 : Value) (K : KV) : World → Prop :=
  boxW a0 (fun x1 => load1W x1 (fun x2 => load1W a1 (fun x3 => CP Try.prog Fn.table_open [x2, x3] (fun x4 => load1W x1 (fun x5 => CP Try.prog Fn.draft_Draft_OK [x5] (fun x6 => notW x6 (fun x7 => gW x7 false (fun K => K x4) (fun x8 => gW x7 false (fun K => nilW x8 K) (fun x9 => gW x7 false (fun K => addW 1 x9 K) (fun x10 => gW x7 false (fun K => load1W x10 K) (fun x11 => gW x7 false (fun K => binIntW .eql x11 (Value.int .i64 0) K) (fun x12 => pickW x7 (Value.bool true) x12 (fun x13 => condP x13 (K (Value.tuple #[])) (CP Try.prog Fn.table_table_each [x4, (Value.func (.func Fn.table_All_1_1) #[] #[a2, x1])] (fun x14 => K (Value.tuple #[]))))))))))))))))

/-- table_table_each -/
def S_table_table_each (a0 a1 : Value) (K : KV) : World → Prop :=
  nilW a0 (fun x1 => addW 2 x1 (fun x2 => load1W x2 (fun x3 => loopW1 (Value.int .i64 0) (fun J1 x4 => binIntW .lss x4 x3 (fun x5 => condP x5 (drewW (nilW a0 (fun x6 => addW 0 x6 (fun x7 => load1W x7 (fun x8 => nilW a0 (fun x9 => addW 3 x9 (fun x10 => load1W x10 (fun x11 => binIntW .add x11 x4 (fun x12 => CP Try.prog Fn.draft_Draft_Place [x8, x12] (fun x13 => andP (andP (trueP) (andP (trueP) (trueP))) (loopW1 x13 (fun J2 x14 => binIntW .neq x14 (Value.int .i64 0) (fun x15 => gW x15 true (fun K => K a0) (fun x16 => gW x15 true (fun K => nilW x16 K) (fun x17 => gW x15 true (fun K => addW 0 x17 K) (fun x18 => gW x15 true (fun K => load1W x18 K) (fun x19 => gW x15 true (fun K => CP Try.prog Fn.draft_Draft_Step [x19] K) (fun x20 => pickW x15 x20 (Value.bool false) (fun x21 => condP x21 (nilW a0 (fun x22 => addW 0 x22 (fun x23 => load1W x23 (fun x24 => binIntW .add x14 (Value.int .i64 2) (fun x25 => CP Try.prog Fn.draft_Draft_Place [x24, x25] (fun x26 => dynW Try.prog a1 [x14] (fun x27 => J2 x26))))))) (binIntW .add x4 (Value.int .i64 1) (fun x28 => J1 x28))))))))))))))))))))) (K (Value.tuple #[])))))))

/-- table_All_1_1 -/
def S_table_All_1_1 (a0 a1 a2 : Value) (K : KV) : World → Prop :=
  drewW (load1W a1 (fun x1 => load1W a2 (fun x2 => binIntW .add a0 (Value.int .i64 0) (fun x3 => load1W a2 (fun x4 => binIntW .add a0 (Value.int .i64 1) (fun x5 => CP Try.prog Fn.draft_Draft_Read [x2, x3] (fun x6 => andP (andP (load1W a2 (fun v => eqP v x4)) (andP (trueP) (andP (load1W a1 (fun v => eqP v x1)) (trueP)))) (CP Try.prog Fn.draft_Draft_Read [x4, x5] (fun x7 => andP (andP (trueP) (andP (load1W a1 (fun v => eqP v x1)) (trueP))) (buildW [(Value.int .u64 0), (Value.int .u64 0)] [(0, 1, x6), (1, 1, x7)] (fun x8 => buildSliceW [(Value.int .u64 0), (Value.int .u64 0)] 1 [(0, 2, x8)] (fun x9 => andP (andP (load1W a1 (fun v => eqP v x1)) (trueP)) (appendW 2 16 x1 x9 (fun x10 => andP (andP (trueP) (trueP)) (storeW 1 a1 x10 (fun _ => andP (trueP) (K (Value.tuple #[]))))))))))))))))))

/-- slices_SortFunc_api_Pair_api_Pair -/
def S_slices_SortFunc_api_Pair_api_Pair (a0 a1 : Value) (K : KV) : World → Prop :=
  lenW a0 (fun x1 => convW .u64 x1 (fun x2 => CP Try.prog Fn.math_bits_Len [x2] (fun x3 => CP Try.prog Fn.slices_pdqsortCmpFunc_api_Pair [a0, (Value.int .i64 0), x1, x3, a1] (fun x4 => K (Value.tuple #[])))))

/-- table_All_2 -/
def S_table_All_2 (a0 a1 : Value) (K : KV) : World → Prop :=
  boxW a0 (fun x1 => boxW a1 (fun x2 => addW 0 x1 (fun x3 => load1W x3 (fun x4 => addW 0 x2 (fun x5 => load1W x5 (fun x6 => CP Try.prog Fn.cmp_Compare_uint64 [x4, x6] (fun x7 => K x7)))))))

/-- cmp_Compare_uint64 -/
def S_cmp_Compare_uint64 (a0 a1 : Value) (K : KV) : World → Prop :=
  CP Try.prog Fn.cmp_isNaN_uint64 [a0] (fun x1 => CP Try.prog Fn.cmp_isNaN_uint64 [a1] (fun x2 => condP x1 (condP x2 (K (Value.int .i64 0)) (K (Value.int .i64 (-1)))) (condP x2 (K (Value.int .i64 1)) (binIntW .lss a0 a1 (fun x3 => condP x3 (K (Value.int .i64 (-1))) (binIntW .gtr a0 a1 (fun x4 => condP x4 (K (Value.int .i64 1)) (K (Value.int .i64 0)))))))))

/-- levels_New -/
def S_levels_New (a0 : Value) (K : KV) : World → Prop :=
  minW a0 [(Value.int .i64 96)] (fun x1 => maxW (Value.int .i64 0) [x1] (fun x2 => CP Try.prog Fn.levels_fresh [] (fun x3 => buildSliceW [(Value.pointer none)] 1 [(0, 1, x3)] (fun x4 => buildW [(Value.int .i64 0), (Value.slice none 0 0)] [(0, 1, x2), (1, 1, x4)] (fun x5 => boxW x5 (fun x6 => K x6))))))

/-- view_View_is -/
def S_view_View_is (a0 a1 : Value) (K : KV) : World → Prop :=
  binIntW .geq a1 (Value.int .i64 1) (fun x1 => gW x1 true (fun K => K a1) (fun x2 => gW x1 true (fun K => K a0) (fun x3 => gW x1 true (fun K => nilW x3 K) (fun x4 => gW x1 true (fun K => addW 0 x4 K) (fun x5 => gW x1 true (fun K => load1W x5 K) (fun x6 => gW x1 true (fun K => lenW x6 K) (fun x7 => gW x1 true (fun K => binIntW .lss x2 x7 K) (fun x8 => pickW x1 x8 (Value.bool false) (fun x9 => K x9)))))))))

/-- draft_of -/
def S_draft_of (a0 : Value) (K : KV) : World → Prop :=
  CP Try.prog Fn.view_View_Size [a0] (fun x1 => CP Try.prog Fn.view_New [x1, (Value.int .i64 96)] (fun x2 => CP Try.prog Fn.view_View_Cells [a0] (fun x3 => lenW x3 (fun x4 => loopW1 (Value.int .i64 0) (fun J1 x5 => binIntW .lss x5 x4 (fun x6 => condP x6 (idxW 2 x3 x5 (fun x7 => loadNW 2 x7 (fun x8 => newW #[(Value.int .i64 0), (Value.int .u64 0)] (fun x9 => storeW 2 x9 x8 (fun _ => addW 0 x9 (fun x11 => load1W x11 (fun x12 => addW 1 x9 (fun x13 => load1W x13 (fun x14 => CP Try.prog Fn.view_View_Know [x2, x12, x14] (fun x15 => binIntW .add x5 (Value.int .i64 1) (fun x16 => J1 x16))))))))))) (CP Try.prog Fn.view_View_Known [a0] (fun x17 => lenW x17 (fun x18 => loopW1 (Value.int .i64 0) (fun J2 x19 => binIntW .lss x19 x18 (fun x20 => condP x20 (idxW 2 x17 x19 (fun x21 => loadNW 2 x21 (fun x22 => newW #[(Value.int .i64 0), (Value.int .u64 0)] (fun x23 => storeW 2 x23 x22 (fun _ => addW 0 x23 (fun x25 => load1W x25 (fun x26 => addW 1 x23 (fun x27 => load1W x27 (fun x28 => CP Try.prog Fn.view_View_Know [x2, x26, x28] (fun x29 => binIntW .add x19 (Value.int .i64 1) (fun x30 => J2 x30))))))))))) (K x2))))))))))))

/-- view_View_Read -/
def S_view_View_Read (a0 a1 : Value) (K : KV) : World → Prop :=
  CP Try.prog Fn.view_View_is [a0, a1] (fun x1 => notW x1 (fun x2 => condP x2 (K (Value.tuple #[(Value.int .u64 0), (Value.int .i64 2)])) (nilW a0 (fun x3 => addW 2 x3 (fun x4 => load1W x4 (fun x5 => CP Try.prog Fn.levels_Levels_Get [x5, a1] (fun x6 => extractW 0 x6 (fun x7 => extractW 1 x6 (fun x8 => condP x8 (K (Value.tuple #[x7, (Value.int .i64 0)])) (nilW a0 (fun x9 => addW 0 x9 (fun x10 => load1W x10 (fun x11 => idxW 2 x11 a1 (fun x12 => loadNW 2 x12 (fun x13 => newW #[(Value.int .u64 0), (Value.bool false)] (fun x14 => storeW 2 x14 x13 (fun _ => addW 1 x14 (fun x16 => load1W x16 (fun x17 => condP x17 (addW 0 x14 (fun x18 => load1W x18 (fun x19 => K (Value.tuple #[x19, (Value.int .i64 0)])))) (nilW a0 (fun x20 => addW 3 x20 (fun x21 => storeW 1 x21 a1 (fun _ => K (Value.tuple #[(Value.int .u64 0), (Value.int .i64 11)]))))))))))))))))))))))))

/-- view_View_Need -/
def S_view_View_Need (a0 : Value) (K : KV) : World → Prop :=
  nilW a0 (fun x1 => addW 3 x1 (fun x2 => load1W x2 (fun x3 => K x3)))

/-- view_View_Take -/
def S_view_View_Take (a0 a1 : Value) (K : KV) : World → Prop :=
  lenW a1 (fun x1 => loopW1 (Value.int .i64 0) (fun J1 x2 => binIntW .lss x2 x1 (fun x3 => condP x3 (idxW 2 a1 x2 (fun x4 => loadNW 2 x4 (fun x5 => newW #[(Value.int .i64 0), (Value.int .u64 0)] (fun x6 => storeW 2 x6 x5 (fun _ => addW 0 x6 (fun x8 => load1W x8 (fun x9 => CP Try.prog Fn.view_View_is [a0, x9] (fun x10 => notW x10 (fun x11 => condP x11 (K (Value.int .i64 2)) (binIntW .add x2 (Value.int .i64 1) (fun x12 => J1 x12))))))))))) (nilW a0 (fun x13 => addW 2 x13 (fun x14 => load1W x14 (fun x15 => CP Try.prog Fn.levels_Levels_Take [x15, a1] (fun x16 => K x16))))))))

/-- view_View_Cells -/
def S_view_View_Cells (a0 : Value) (K : KV) : World → Prop :=
  nilW a0 (fun x1 => addW 2 x1 (fun x2 => load1W x2 (fun x3 => CP Try.prog Fn.levels_Levels_Cells [x3] (fun x4 => K x4))))

/-- view_View_Frees -/
def S_view_View_Frees (a0 : Value) (K : KV) : World → Prop :=
  nilW a0 (fun x1 => addW 2 x1 (fun x2 => load1W x2 (fun x3 => CP Try.prog Fn.levels_Levels_Frees [x3] (fun x4 => K x4))))

/-- view_View_Free -/
def S_view_View_Free (a0 a1 : Value) (K : KV) : World → Prop :=
  nilW a0 (fun x1 => addW 2 x1 (fun x2 => load1W x2 (fun x3 => CP Try.prog Fn.levels_Levels_Free [x3, a1] (fun x4 => K (Value.tuple #[])))))

/-- draft_Draft_Place -/
def S_draft_Draft_Place (a0 a1 : Value) (K : KV) : World → Prop :=
  CP Try.prog Fn.draft_Draft_Read [a0, a1] (fun x1 => CP Try.prog Fn.draft_Draft_Name [a0, x1] (fun x2 => K x2))

/-- draft_Draft_Fail -/
def S_draft_Draft_Fail (a0 a1 : Value) (K : KV) : World → Prop :=
  CP Try.prog Fn.draft_Draft_OK [a0] (fun x1 => joinW0 (K (Value.tuple #[])) (fun j1 => condP x1 (nilW a0 (fun x2 => addW 1 x2 (fun x3 => storeW 1 x3 a1 (fun _ => j1)))) (j1)))

/-- table_chain -/
def S_table_chain (a0 a1 : Value) (K : KV) : World → Prop :=
  binIntW .mul a0 (Value.int .u64 11400714819323198485) (fun x1 => binIntW .shr x1 (Value.int .u64 60) (fun x2 => convW .i64 x2 (fun x3 => binIntW .sub a1 (Value.int .i64 1) (fun x4 => binIntW .and x3 x4 (fun x5 => K x5)))))

/-- draft_Draft_Step -/
def S_draft_Draft_Step (a0 : Value) (K : KV) : World → Prop :=
  nilW a0 (fun x1 => addW 2 x1 (fun x2 => load1W x2 (fun x3 => binIntW .add x3 (Value.int .i64 1) (fun x4 => nilW a0 (fun x5 => addW 2 x5 (fun x6 => storeW 1 x6 x4 (fun _ => nilW a0 (fun x8 => addW 2 x8 (fun x9 => load1W x9 (fun x10 => binIntW .gtr x10 (Value.int .i64 2048) (fun x11 => joinW0 (CP Try.prog Fn.draft_Draft_OK [a0] (fun x12 => K x12)) (fun j1 => condP x11 (CP Try.prog Fn.draft_Draft_Fail [a0, (Value.int .i64 2)] (fun x13 => j1)) (j1)))))))))))))

/-- view_View_Write -/
def S_view_View_Write (a0 a1 a2 : Value) (K : KV) : World → Prop :=
  CP Try.prog Fn.view_View_is [a0, a1] (fun x1 => notW x1 (fun x2 => condP x2 (K (Value.int .i64 2)) (nilW a0 (fun x3 => addW 2 x3 (fun x4 => load1W x4 (fun x5 => CP Try.prog Fn.levels_Levels_Put [x5, a1, a2] (fun x6 => K x6)))))))

/-- table_table_grow_1 -/
def S_table_table_grow_1 (a0 a1 a2 a3 : Value) (K : KV) : World → Prop :=
  drewW (load1W a1 (fun x1 => nilW x1 (fun x2 => addW 0 x2 (fun x3 => load1W x3 (fun x4 => binIntW .add a0 (Value.int .i64 0) (fun x5 => load1W a2 (fun x6 => CP Try.prog Fn.draft_Draft_Read [x4, x5] (fun x7 => andP (andP (load1W a2 (fun v => eqP v x6)) (andP (trueP) (andP (trueP) (trueP)))) (CP Try.prog Fn.table_chain [x7, x6] (fun x8 => andP (andP (trueP) (trueP)) (drewW (load1W a1 (fun x9 => nilW x9 (fun x10 => addW 0 x10 (fun x11 => load1W x11 (fun x12 => binIntW .add a0 (Value.int .i64 2) (fun x13 => load1W a3 (fun x14 => idxW 1 x14 x8 (fun x15 => load1W x15 (fun x16 => CP Try.prog Fn.draft_Draft_Point [x12, x13, x16] (fun x17 => andP (andP (trueP) (andP (trueP) (andP (trueP) (andP (trueP) (trueP))))) (load1W a3 (fun x18 => idxW 1 x18 x8 (fun x19 => storeW 1 x19 a0 (fun _ => K (Value.tuple #[]))))))))))))))))))))))))))

/-- draft_Draft_Free -/
def S_draft_Draft_Free (a0 a1 : Value) (K : KV) : World → Prop :=
  CP Try.prog Fn.draft_Draft_OK [a0] (fun x1 => joinW0 (K (Value.tuple #[])) (fun j1 => condP x1 (nilW a0 (fun x2 => addW 0 x2 (fun x3 => load1W x3 (fun x4 => CP Try.prog Fn.arena_Free [x4, a1] (fun x5 => CP Try.prog Fn.draft_Draft_Fail [a0, x5] (fun x6 => j1)))))) (j1)))

/-- arena_Alloc -/
def S_arena_Alloc (a0 a1 : Value) (K : KV) : World → Prop :=
  CP Try.prog Fn.arena_Class [a1] (fun x1 => binIntW .eql x1 (Value.int .i64 0) (fun x2 => condP x2 (K (Value.tuple #[(Value.int .i64 0), (Value.int .i64 3)])) (CP Try.prog Fn.arena_head [x1] (fun x3 => CP Try.prog Fn.view_View_Read [a0, x3] (fun x4 => extractW 0 x4 (fun x5 => extractW 1 x4 (fun x6 => binIntW .neq x6 (Value.int .i64 0) (fun x7 => condP x7 (K (Value.tuple #[(Value.int .i64 0), x6])) (binIntW .neq x5 (Value.int .u64 0) (fun x8 => condP x8 (CP Try.prog Fn.arena_again [a0, x1, x5] (fun x9 => extractW 0 x9 (fun x10 => extractW 1 x9 (fun x11 => K (Value.tuple #[x10, x11]))))) (CP Try.prog Fn.arena_grown [a0, x1] (fun x12 => extractW 0 x12 (fun x13 => extractW 1 x12 (fun x14 => K (Value.tuple #[x13, x14])))))))))))))))

/-- math_bits_Len -/
def S_math_bits_Len (a0 : Value) (K : KV) : World → Prop :=
  condP (Value.bool false) (convW .u32 a0 (fun x1 => CP Try.prog Fn.math_bits_Len32 [x1] (fun x2 => K x2))) (CP Try.prog Fn.math_bits_Len64 [a0] (fun x3 => K x3))

/-- cmp_isNaN_uint64 -/
def S_cmp_isNaN_uint64 (a0 : Value) (K : KV) : World → Prop :=
  binIntW .neq a0 a0 (fun x1 => K x1)

/-- levels_fresh -/
def S_levels_fresh (K : KV) : World → Prop :=
  CP Try.prog Fn.writes_New [(Value.int .i64 96)] (fun x1 => buildW [(Value.pointer none), (Value.slice none 0 0)] [(0, 1, x1)] (fun x2 => boxW x2 (fun x3 => K x3)))

/-- view_View_Known -/
def S_view_View_Known (a0 : Value) (K : KV) : World → Prop :=
  nilW a0 (fun x1 => addW 1 x1 (fun x2 => load1W x2 (fun x3 => lenW x3 (fun x4 => makeSliceW 16 [(Value.int .i64 0), (Value.int .u64 0)] (Value.int .i64 0) x4 (fun x5 => nilW a0 (fun x6 => addW 1 x6 (fun x7 => load1W x7 (fun x8 => lenW x8 (fun x9 => loopW2 x5 (Value.int .i64 0) (fun J1 x10 x11 => binIntW .lss x11 x9 (fun x12 => condP x12 (idxW 1 x8 x11 (fun x13 => load1W x13 (fun x14 => nilW a0 (fun x15 => addW 0 x15 (fun x16 => load1W x16 (fun x17 => idxW 2 x17 x14 (fun x18 => addW 0 x18 (fun x19 => load1W x19 (fun x20 => buildW [(Value.int .i64 0), (Value.int .u64 0)] [(0, 1, x14), (1, 1, x20)] (fun x21 => buildSliceW [(Value.int .i64 0), (Value.int .u64 0)] 1 [(0, 2, x21)] (fun x22 => appendW 2 16 x10 x22 (fun x23 => binIntW .add x11 (Value.int .i64 1) (fun x24 => J1 x23 x24))))))))))))) (K x10))))))))))))

/-- levels_Levels_Get -/
def S_levels_Levels_Get (a0 a1 : Value) (K : KV) : World → Prop :=
  boxW a1 (fun x1 => newW #[(Value.int .u64 0)] (fun x2 => newW #[(Value.bool false)] (fun x3 => nilW a0 (fun x4 => addW 1 x4 (fun x5 => load1W x5 (fun x6 => CP Try.prog Fn.slices_Backward_levels_level_levels_level [x6] (fun x7 => backW Fn.slices_Backward_levels_level_levels_level_1 x7 (fun J R x8 x9 => drewW (nilW x9 (fun x10 => addW 0 x10 (fun x11 => load1W x11 (fun x12 => load1W x1 (fun x13 => CP Try.prog Fn.writes_Writes_Get [x12, x13] (fun x14 => andP (andP (trueP) (andP (trueP) (trueP))) (extractW 0 x14 (fun x15 => extractW 1 x14 (fun x16 => condP x16 (storeW 1 x2 x15 (fun _ => storeW 1 x3 (Value.bool true) (fun _ => R))) (J))))))))))) (fun K => storeW 1 x2 (Value.int .u64 0) (fun _ => storeW 1 x3 (Value.bool false) (fun _ => load1W x2 (fun x21 => load1W x3 (fun x22 => K (Value.tuple #[x21, x22])))))) (fun K => load1W x2 (fun x23 => load1W x3 (fun x24 => K (Value.tuple #[x23, x24])))) K)))))))

/-- levels_Levels_Take -/
def S_levels_Levels_Take (a0 a1 : Value) (K : KV) : World → Prop :=
  CP Try.prog Fn.writes_New [(Value.int .i64 96)] (fun x1 => CP Try.prog Fn.levels_Levels_in [a0] (fun x2 => nilW x2 (fun x3 => addW 0 x3 (fun x4 => load1W x4 (fun x5 => CP Try.prog Fn.writes_Writes_All [x5] (fun x6 => CP Try.prog Fn.writes_Writes_Take [x1, x6] (fun x7 => lenW a1 (fun x8 => loopW1 (Value.int .i64 0) (fun J1 x9 => binIntW .lss x9 x8 (fun x10 => condP x10 (idxW 2 a1 x9 (fun x11 => loadNW 2 x11 (fun x12 => newW #[(Value.int .i64 0), (Value.int .u64 0)] (fun x13 => storeW 2 x13 x12 (fun _ => addW 0 x13 (fun x15 => load1W x15 (fun x16 => addW 1 x13 (fun x17 => load1W x17 (fun x18 => CP Try.prog Fn.levels_Levels_Put [a0, x16, x18] (fun x19 => binIntW .neq x19 (Value.int .i64 0) (fun x20 => condP x20 (CP Try.prog Fn.levels_Levels_in [a0] (fun x21 => nilW x21 (fun x22 => addW 0 x22 (fun x23 => storeW 1 x23 x1 (fun _ => K x19))))) (binIntW .add x9 (Value.int .i64 1) (fun x25 => J1 x25))))))))))))) (K (Value.int .i64 0))))))))))))

/-- levels_Levels_Cells -/
def S_levels_Levels_Cells (a0 : Value) (K : KV) : World → Prop :=
  newW #[(Value.slice none 0 0)] (fun x1 => nilW a0 (fun x2 => addW 1 x2 (fun x3 => load1W x3 (fun x4 => CP Try.prog Fn.slices_Backward_levels_level_levels_level [x4] (fun x5 => backW Fn.slices_Backward_levels_level_levels_level_1 x5 (fun J R x6 x7 => CP Try.prog Fn.writes_New [(Value.int .i64 96)] (fun x8 => nilW x7 (fun x9 => addW 0 x9 (fun x10 => load1W x10 (fun x11 => CP Try.prog Fn.writes_Writes_All [x11] (fun x12 => CP Try.prog Fn.writes_Writes_Take [x8, x12] (fun x13 => load1W x1 (fun x14 => CP Try.prog Fn.writes_Writes_Take [x8, x14] (fun x15 => CP Try.prog Fn.writes_Writes_All [x8] (fun x16 => storeW 1 x1 x16 (fun _ => J))))))))))) (fun K => load1W x1 (fun x18 => K x18)) (fun K => K (Value.slice none 0 0)) K)))))

/-- levels_Levels_Frees -/
def S_levels_Levels_Frees (a0 : Value) (K : KV) : World → Prop :=
  nilW a0 (fun x1 => addW 1 x1 (fun x2 => load1W x2 (fun x3 => lenW x3 (fun x4 => loopW2 (Value.slice none 0 0) (Value.int .i64 0) (fun J1 x5 x6 => binIntW .lss x6 x4 (fun x7 => condP x7 (idxW 1 x3 x6 (fun x8 => load1W x8 (fun x9 => nilW x9 (fun x10 => addW 1 x10 (fun x11 => load1W x11 (fun x12 => appendW 1 8 x5 x12 (fun x13 => binIntW .add x6 (Value.int .i64 1) (fun x14 => J1 x13 x14)))))))) (K x5)))))))

/-- levels_Levels_Free -/
def S_levels_Levels_Free (a0 a1 : Value) (K : KV) : World → Prop :=
  CP Try.prog Fn.levels_Levels_in [a0] (fun x1 => nilW x1 (fun x2 => addW 1 x2 (fun x3 => load1W x3 (fun x4 => buildSliceW [(Value.int .i64 0)] 1 [(0, 1, a1)] (fun x5 => appendW 1 8 x4 x5 (fun x6 => nilW x1 (fun x7 => addW 1 x7 (fun x8 => storeW 1 x8 x6 (fun _ => K (Value.tuple #[]))))))))))

/-- draft_Draft_Name -/
def S_draft_Draft_Name (a0 a1 : Value) (K : KV) : World → Prop :=
  binIntW .geq a1 (Value.int .u64 2147483648) (fun x1 => condP x1 (CP Try.prog Fn.draft_Draft_Fail [a0, (Value.int .i64 2)] (fun x2 => K (Value.int .i64 0))) (convW .i64 a1 (fun x3 => K x3)))

/-- levels_Levels_Put -/
def S_levels_Levels_Put (a0 a1 a2 : Value) (K : KV) : World → Prop :=
  binIntW .lss a1 (Value.int .i64 1) (fun x1 => gW x1 false (fun K => K a1) (fun x2 => gW x1 false (fun K => binIntW .geq x2 (Value.int .i64 256) K) (fun x3 => pickW x1 (Value.bool true) x3 (fun x4 => condP x4 (K (Value.int .i64 2)) (CP Try.prog Fn.levels_Levels_in [a0] (fun x5 => nilW x5 (fun x6 => addW 0 x6 (fun x7 => load1W x7 (fun x8 => CP Try.prog Fn.writes_Writes_Get [x8, a1] (fun x9 => extractW 0 x9 (fun x10 => extractW 1 x9 (fun x11 => notW x11 (fun x12 => gW x12 true (fun K => K a0) (fun x13 => gW x12 true (fun K => CP Try.prog Fn.levels_Levels_Room [x13] K) (fun x14 => gW x12 true (fun K => binIntW .eql x14 (Value.int .i64 0) K) (fun x15 => pickW x12 x15 (Value.bool false) (fun x16 => condP x16 (K (Value.int .i64 5)) (CP Try.prog Fn.writes_Writes_Put [x8, a1, a2] (fun x17 => K x17)))))))))))))))))))

/-- arena_Free -/
def S_arena_Free (a0 a1 : Value) (K : KV) : World → Prop :=
  CP Try.prog Fn.arena_asked [a0, a1] (fun x1 => extractW 0 x1 (fun x2 => extractW 1 x1 (fun x3 => extractW 2 x1 (fun x4 => binIntW .eql x4 (Value.int .i64 0) (fun x5 => gW x5 true (fun K => K x3) (fun x6 => gW x5 true (fun K => notW x6 K) (fun x7 => pickW x5 x7 (Value.bool false) (fun x8 => joinW1 (fun x9 => binIntW .eql x9 (Value.int .i64 0) (fun x10 => joinW1 (fun x11 => binIntW .eql x11 (Value.int .i64 0) (fun x12 => joinW0 (K x11) (fun j3 => condP x12 (CP Try.prog Fn.view_View_Free [a0, a1] (fun x13 => j3)) (j3)))) (fun j2 => condP x10 (binIntW .sub a1 (Value.int .i64 1) (fun x14 => convW .u64 x2 (fun x15 => buildW [(Value.int .i64 0), (Value.int .u64 0)] [(0, 1, x14), (1, 1, x15)] (fun x16 => buildSliceW [(Value.int .i64 0), (Value.int .u64 0)] 1 [(0, 2, x16)] (fun x17 => CP Try.prog Fn.view_View_Take [a0, x17] (fun x18 => j2 x18)))))) (j2 x9)))) (fun j1 => condP x8 (j1 (Value.int .i64 2)) (j1 x4))))))))))

/-- arena_Class -/
def S_arena_Class (a0 : Value) (K : KV) : World → Prop :=
  binIntW .lss a0 (Value.int .i64 1) (fun x1 => condP x1 (K (Value.int .i64 0)) (loopW1 (Value.int .i64 1) (fun J1 x2 => binIntW .leq x2 (Value.int .i64 4) (fun x3 => condP x3 (CP Try.prog Fn.arena_Size [x2] (fun x4 => binIntW .geq x4 a0 (fun x5 => condP x5 (K x2) (binIntW .add x2 (Value.int .i64 1) (fun x6 => J1 x6))))) (K (Value.int .i64 0))))))

/-- arena_head -/
def S_arena_head (a0 : Value) (K : KV) : World → Prop :=
  binIntW .add (Value.int .i64 0) a0 (fun x1 => K x1)

/-- arena_again -/
def S_arena_again (a0 a1 a2 : Value) (K : KV) : World → Prop :=
  binIntW .geq a2 (Value.int .u64 2147483648) (fun x1 => condP x1 (K (Value.tuple #[(Value.int .i64 0), (Value.int .i64 2)])) (convW .i64 a2 (fun x2 => CP Try.prog Fn.view_View_Read [a0, x2] (fun x3 => extractW 0 x3 (fun x4 => extractW 1 x3 (fun x5 => binIntW .eql x5 (Value.int .i64 0) (fun x6 => joinW1 (fun x7 => binIntW .neq x7 (Value.int .i64 0) (fun x8 => condP x8 (K (Value.tuple #[(Value.int .i64 0), x7])) (K (Value.tuple #[x2, (Value.int .i64 0)])))) (fun j1 => condP x6 (CP Try.prog Fn.arena_head [a1] (fun x9 => buildW [(Value.int .i64 0), (Value.int .u64 0)] [(0, 1, x9), (1, 1, x4)] (fun x10 => binIntW .sub x2 (Value.int .i64 1) (fun x11 => binIntW .add a1 (Value.int .i64 8) (fun x12 => convW .u64 x12 (fun x13 => buildW [(Value.int .i64 0), (Value.int .u64 0)] [(0, 1, x11), (1, 1, x13)] (fun x14 => buildSliceW [(Value.int .i64 0), (Value.int .u64 0)] 2 [(0, 2, x10), (2, 2, x14)] (fun x15 => CP Try.prog Fn.view_View_Take [a0, x15] (fun x16 => j1 x16))))))))) (j1 x5)))))))))

/-- arena_grown -/
def S_arena_grown (a0 a1 : Value) (K : KV) : World → Prop :=
  CP Try.prog Fn.view_View_Read [a0, (Value.int .i64 5)] (fun x1 => extractW 0 x1 (fun x2 => extractW 1 x1 (fun x3 => binIntW .neq x3 (Value.int .i64 0) (fun x4 => condP x4 (K (Value.tuple #[(Value.int .i64 0), x3])) (binIntW .lss x2 (Value.int .u64 14) (fun x5 => gW x5 false (fun K => K x2) (fun x6 => gW x5 false (fun K => binIntW .geq x6 (Value.int .u64 2147483648) K) (fun x7 => pickW x5 (Value.bool true) x7 (fun x8 => gW x8 false (fun K => K x2) (fun x9 => gW x8 false (fun K => convW .i64 x9 K) (fun x10 => gW x8 false (fun K => binIntW .add x10 (Value.int .i64 1) K) (fun x11 => gW x8 false (fun K => K a1) (fun x12 => gW x8 false (fun K => CP Try.prog Fn.arena_Size [x12] K) (fun x13 => gW x8 false (fun K => binIntW .add x11 x13 K) (fun x14 => gW x8 false (fun K => K a0) (fun x15 => gW x8 false (fun K => CP Try.prog Fn.view_View_Size [x15] K) (fun x16 => gW x8 false (fun K => binIntW .gtr x14 x16 K) (fun x17 => pickW x8 (Value.bool true) x17 (fun x18 => condP x18 (K (Value.tuple #[(Value.int .i64 0), (Value.int .i64 4)])) (convW .i64 x2 (fun x19 => binIntW .add x19 (Value.int .i64 1) (fun x20 => CP Try.prog Fn.arena_Size [a1] (fun x21 => binIntW .add x20 x21 (fun x22 => convW .u64 x22 (fun x23 => buildW [(Value.int .i64 0), (Value.int .u64 0)] [(0, 1, (Value.int .i64 5)), (1, 1, x23)] (fun x24 => binIntW .add a1 (Value.int .i64 8) (fun x25 => convW .u64 x25 (fun x26 => buildW [(Value.int .i64 0), (Value.int .u64 0)] [(0, 1, x19), (1, 1, x26)] (fun x27 => buildSliceW [(Value.int .i64 0), (Value.int .u64 0)] 2 [(0, 2, x24), (2, 2, x27)] (fun x28 => CP Try.prog Fn.view_View_Take [a0, x28] (fun x29 => binIntW .neq x29 (Value.int .i64 0) (fun x30 => condP x30 (K (Value.tuple #[(Value.int .i64 0), x29])) (binIntW .add x19 (Value.int .i64 1) (fun x31 => K (Value.tuple #[x31, (Value.int .i64 0)])))))))))))))))))))))))))))))))))))

/-- writes_New -/
def S_writes_New (a0 : Value) (K : KV) : World → Prop :=
  minW a0 [(Value.int .i64 96)] (fun x1 => maxW (Value.int .i64 0) [x1] (fun x2 => buildW [(Value.int .i64 0), (Value.slice none 0 0)] [(0, 1, x2)] (fun x3 => boxW x3 (fun x4 => K x4))))

/-- slices_Backward_levels_level_levels_level -/
def S_slices_Backward_levels_level_levels_level (a0 : Value) (K : KV) : World → Prop :=
  boxW a0 (fun x1 => K (Value.func (.func Fn.slices_Backward_levels_level_levels_level_1) #[] #[x1]))

/-- writes_Writes_Get -/
def S_writes_Writes_Get (a0 a1 : Value) (K : KV) : World → Prop :=
  CP Try.prog Fn.writes_Writes_find [a0, a1] (fun x1 => binIntW .geq x1 (Value.int .i64 0) (fun x2 => condP x2 (nilW a0 (fun x3 => addW 1 x3 (fun x4 => load1W x4 (fun x5 => idxW 2 x5 x1 (fun x6 => addW 1 x6 (fun x7 => load1W x7 (fun x8 => K (Value.tuple #[x8, (Value.bool true)])))))))) (K (Value.tuple #[(Value.int .u64 0), (Value.bool false)]))))

/-- writes_Writes_Take -/
def S_writes_Writes_Take (a0 a1 : Value) (K : KV) : World → Prop :=
  CP Try.prog Fn.writes_Writes_All [a0] (fun x1 => lenW a1 (fun x2 => loopW1 (Value.int .i64 0) (fun J1 x3 => binIntW .lss x3 x2 (fun x4 => condP x4 (idxW 2 a1 x3 (fun x5 => loadNW 2 x5 (fun x6 => newW #[(Value.int .i64 0), (Value.int .u64 0)] (fun x7 => storeW 2 x7 x6 (fun _ => addW 0 x7 (fun x9 => load1W x9 (fun x10 => addW 1 x7 (fun x11 => load1W x11 (fun x12 => CP Try.prog Fn.writes_Writes_Put [a0, x10, x12] (fun x13 => binIntW .neq x13 (Value.int .i64 0) (fun x14 => condP x14 (nilW a0 (fun x15 => addW 1 x15 (fun x16 => storeW 1 x16 x1 (fun _ => K x13)))) (binIntW .add x3 (Value.int .i64 1) (fun x18 => J1 x18))))))))))))) (K (Value.int .i64 0))))))

/-- levels_Levels_in -/
def S_levels_Levels_in (a0 : Value) (K : KV) : World → Prop :=
  drewW (nilW a0 (fun x1 => addW 1 x1 (fun x2 => load1W x2 (fun x3 => nilW a0 (fun x4 => addW 1 x4 (fun x5 => load1W x5 (fun x6 => lenW x6 (fun x7 => binIntW .sub x7 (Value.int .i64 1) (fun x8 => idxW 1 x3 x8 (fun x9 => load1W x9 (fun x10 => K x10)))))))))))

/-- writes_Writes_All -/
def S_writes_Writes_All (a0 : Value) (K : KV) : World → Prop :=
  nilW a0 (fun x1 => addW 1 x1 (fun x2 => load1W x2 (fun x3 => CP Try.prog Fn.slices_Clone_api_Cell_api_Cell [x3] (fun x4 => K x4))))

/-- levels_Levels_Room -/
def S_levels_Levels_Room (a0 : Value) (K : KV) : World → Prop :=
  nilW a0 (fun x1 => addW 0 x1 (fun x2 => load1W x2 (fun x3 => nilW a0 (fun x4 => addW 1 x4 (fun x5 => load1W x5 (fun x6 => lenW x6 (fun x7 => loopW2 x3 (Value.int .i64 0) (fun J1 x8 x9 => binIntW .lss x9 x7 (fun x10 => condP x10 (idxW 1 x6 x9 (fun x11 => load1W x11 (fun x12 => nilW x12 (fun x13 => addW 0 x13 (fun x14 => load1W x14 (fun x15 => CP Try.prog Fn.writes_Writes_Len [x15] (fun x16 => binIntW .sub x8 x16 (fun x17 => binIntW .add x9 (Value.int .i64 1) (fun x18 => J1 x17 x18))))))))) (K x8))))))))))

/-- writes_Writes_Put -/
def S_writes_Writes_Put (a0 a1 a2 : Value) (K : KV) : World → Prop :=
  binIntW .lss a1 (Value.int .i64 1) (fun x1 => gW x1 false (fun K => K a1) (fun x2 => gW x1 false (fun K => binIntW .geq x2 (Value.int .i64 256) K) (fun x3 => pickW x1 (Value.bool true) x3 (fun x4 => condP x4 (K (Value.int .i64 2)) (CP Try.prog Fn.writes_Writes_find [a0, a1] (fun x5 => binIntW .geq x5 (Value.int .i64 0) (fun x6 => condP x6 (nilW a0 (fun x7 => addW 1 x7 (fun x8 => load1W x8 (fun x9 => idxW 2 x9 x5 (fun x10 => addW 1 x10 (fun x11 => storeW 1 x11 a2 (fun _ => K (Value.int .i64 0)))))))) (drewW (nilW a0 (fun x13 => addW 1 x13 (fun x14 => load1W x14 (fun x15 => lenW x15 (fun x16 => nilW a0 (fun x17 => addW 0 x17 (fun x18 => load1W x18 (fun x19 => binIntW .geq x16 x19 (fun x20 => condP x20 (K (Value.int .i64 5)) (nilW a0 (fun x21 => addW 1 x21 (fun x22 => load1W x22 (fun x23 => buildW [(Value.int .i64 0), (Value.int .u64 0)] [(0, 1, a1), (1, 1, a2)] (fun x24 => buildSliceW [(Value.int .i64 0), (Value.int .u64 0)] 1 [(0, 2, x24)] (fun x25 => appendW 2 16 x23 x25 (fun x26 => nilW a0 (fun x27 => addW 1 x27 (fun x28 => storeW 1 x28 x26 (fun _ => K (Value.int .i64 0))))))))))))))))))))))))))))

/-- arena_asked -/
def S_arena_asked (a0 a1 : Value) (K : KV) : World → Prop :=
  binIntW .leq a1 (Value.int .i64 14) (fun x1 => gW x1 false (fun K => K a1) (fun x2 => gW x1 false (fun K => K a0) (fun x3 => gW x1 false (fun K => CP Try.prog Fn.view_View_Size [x3] K) (fun x4 => gW x1 false (fun K => binIntW .geq x2 x4 K) (fun x5 => pickW x1 (Value.bool true) x5 (fun x6 => condP x6 (K (Value.tuple #[(Value.int .i64 0), (Value.bool false), (Value.int .i64 2)])) (binIntW .sub a1 (Value.int .i64 1) (fun x7 => CP Try.prog Fn.view_View_Read [a0, x7] (fun x8 => extractW 0 x8 (fun x9 => extractW 1 x8 (fun x10 => binIntW .neq x10 (Value.int .i64 0) (fun x11 => condP x11 (K (Value.tuple #[(Value.int .i64 0), (Value.bool false), x10])) (CP Try.prog Fn.arena_header [x9] (fun x12 => extractW 0 x12 (fun x13 => extractW 1 x12 (fun x14 => binIntW .eql x13 (Value.int .i64 0) (fun x15 => condP x15 (K (Value.tuple #[(Value.int .i64 0), (Value.bool false), (Value.int .i64 2)])) (K (Value.tuple #[x13, x14, (Value.int .i64 0)])))))))))))))))))))

/-- arena_Size -/
def S_arena_Size (a0 : Value) (K : KV) : World → Prop :=
  binIntW .lss a0 (Value.int .i64 1) (fun x1 => gW x1 false (fun K => K a0) (fun x2 => gW x1 false (fun K => binIntW .gtr x2 (Value.int .i64 4) K) (fun x3 => pickW x1 (Value.bool true) x3 (fun x4 => condP x4 (K (Value.int .i64 0)) (binIntW .shl (Value.int .i64 1) a0 (fun x5 => K x5))))))

/-- slices_Backward_levels_level_levels_level_1 -/
def S_slices_Backward_levels_level_levels_level_1 (a0 a1 : Value) (K : KV) : World → Prop :=
  load1W a1 (fun x1 => lenW x1 (fun x2 => binIntW .sub x2 (Value.int .i64 1) (fun x3 => loopW1 x3 (fun J1 x4 => binIntW .geq x4 (Value.int .i64 0) (fun x5 => condP x5 (load1W a1 (fun x6 => idxW 1 x6 x4 (fun x7 => load1W x7 (fun x8 => dynW Try.prog a0 [x4, x8] (fun x9 => notW x9 (fun x10 => condP x10 (K (Value.tuple #[])) (binIntW .sub x4 (Value.int .i64 1) (fun x11 => J1 x11)))))))) (K (Value.tuple #[])))))))

/-- writes_Writes_find -/
def S_writes_Writes_find (a0 a1 : Value) (K : KV) : World → Prop :=
  boxW a1 (fun x1 => nilW a0 (fun x2 => addW 1 x2 (fun x3 => load1W x3 (fun x4 => CP Try.prog Fn.slices_IndexFunc_api_Cell_api_Cell [x4, (Value.func (.func Fn.writes_Writes_find_1) #[] #[x1])] (fun x5 => K x5)))))

/-- writes_Writes_Len -/
def S_writes_Writes_Len (a0 : Value) (K : KV) : World → Prop :=
  nilW a0 (fun x1 => addW 1 x1 (fun x2 => load1W x2 (fun x3 => lenW x3 (fun x4 => K x4))))

/-- arena_header -/
def S_arena_header (a0 : Value) (K : KV) : World → Prop :=
  binIntW .geq a0 (Value.int .u64 1) (fun x1 => gW x1 true (fun K => K a0) (fun x2 => gW x1 true (fun K => binIntW .leq x2 (Value.int .u64 4) K) (fun x3 => pickW x1 x3 (Value.bool false) (fun x4 => condP x4 (convW .i64 a0 (fun x5 => K (Value.tuple #[x5, (Value.bool false)]))) (binIntW .geq a0 (Value.int .u64 9) (fun x6 => gW x6 true (fun K => K a0) (fun x7 => gW x6 true (fun K => binIntW .leq x7 (Value.int .u64 12) K) (fun x8 => pickW x6 x8 (Value.bool false) (fun x9 => condP x9 (binIntW .sub a0 (Value.int .u64 8) (fun x10 => convW .i64 x10 (fun x11 => K (Value.tuple #[x11, (Value.bool true)])))) (K (Value.tuple #[(Value.int .i64 0), (Value.bool false)])))))))))))

/-- slices_IndexFunc_api_Cell_api_Cell -/
def S_slices_IndexFunc_api_Cell_api_Cell (a0 a1 : Value) (K : KV) : World → Prop :=
  lenW a0 (fun x1 => loopW1 (Value.int .i64 0) (fun J1 x2 => binIntW .lss x2 x1 (fun x3 => condP x3 (idxW 2 a0 x2 (fun x4 => loadNW 2 x4 (fun x5 => dynW Try.prog a1 [x5] (fun x6 => condP x6 (K x2) (binIntW .add x2 (Value.int .i64 1) (fun x7 => J1 x7)))))) (K (Value.int .i64 (-1))))))

/-- writes_Writes_find_1 -/
def S_writes_Writes_find_1 (a0 a1 : Value) (K : KV) : World → Prop :=
  boxW a0 (fun x1 => addW 0 x1 (fun x2 => load1W x2 (fun x3 => load1W a1 (fun x4 => binIntW .eql x3 x4 (fun x5 => K x5)))))

end Go.Proofs.Ytokbiojkpldfeaa.S
