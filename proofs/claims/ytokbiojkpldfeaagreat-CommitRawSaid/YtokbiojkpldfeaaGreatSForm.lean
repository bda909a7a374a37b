/-
  THE PLAIN FORMS OF THE FUNCTIONS, by a program.
-/
import Derived.Test.YtokbiojkpldfeaaGreatG
import Derived.Test.YtokbiojkpldfeaaGreatSIn
import Derived.Test.YtokbiojkpldfeaaGreatProg
namespace Go.Proofs.YtokbiojkpldfeaaGreat.S
open Go Go.Proofs
set_option linter.unusedVariables false
set_option maxRecDepth 100000
abbrev Fn.gosem_cut_init : Nat := 2
abbrev Fn.law25_CommitRaw : Nat := 3
abbrev Fn.law18_TableNeeds : Nat := 4
abbrev Fn.law18_TableApart : Nat := 5
abbrev Fn.law18_TableBlocks : Nat := 6
abbrev Fn.law25_CommitRuns : Nat := 7
abbrev Fn.law25_Case_shape : Nat := 8
abbrev Fn.commit_New : Nat := 9
abbrev Fn.ref23_NewCommit : Nat := 10
abbrev Fn.commit_Commit_Next : Nat := 11
abbrev Fn.ref23_Commit_Next : Nat := 12
abbrev Fn.commit_Commit_End : Nat := 13
abbrev Fn.commit_Commit_Err : Nat := 14
abbrev Fn.commit_Commit_By : Nat := 15
abbrev Fn.commit_Commit_Tell : Nat := 16
abbrev Fn.ref23_Commit_Tell : Nat := 17
abbrev Fn.law18_TableRuns : Nat := 18
abbrev Fn.arena_Fresh : Nat := 19
abbrev Fn.law18_step : Nat := 20
abbrev Fn.law18_mine : Nat := 21
abbrev Fn.keep_Call_Place : Nat := 22
abbrev Fn.view_New : Nat := 23
abbrev Fn.view_Whole : Nat := 24
abbrev Fn.law18_call : Nat := 25
abbrev Fn.book_Same_api_Cell : Nat := 26
abbrev Fn.view_View_Cells : Nat := 27
abbrev Fn.book_Same_int : Nat := 28
abbrev Fn.view_View_Frees : Nat := 29
abbrev Fn.view_View_Depth : Nat := 30
abbrev Fn.view_View_Need : Nat := 31
abbrev Fn.view_View_Know : Nat := 32
abbrev Fn.view_View_Known : Nat := 33
abbrev Fn.arena_Blocks : Nat := 34
abbrev Fn.arena_Size : Nat := 35
abbrev Fn.arena_Lists : Nat := 36
abbrev Fn.law18_live : Nat := 37
abbrev Fn.mem_New : Nat := 38
abbrev Fn.commit_Commit_Writing : Nat := 39
abbrev Fn.mem_Mem_Do : Nat := 40
abbrev Fn.mem_Mem_Locks : Nat := 41
abbrev Fn.mem_Mem_Words : Nat := 42
abbrev Fn.commit_Commit_Stamp : Nat := 43
abbrev Fn.mem_Mem_Now : Nat := 44
abbrev Fn.ref1_Shape : Nat := 45
abbrev Fn.book_Within : Nat := 46
abbrev Fn.patience_New : Nat := 47
abbrev Fn.slices_Clone_api_Seen_api_Seen : Nat := 48
abbrev Fn.slices_Clone_api_Cell_api_Cell : Nat := 49
abbrev Fn.writes_Stripes : Nat := 50
abbrev Fn.commit_Commit_more : Nat := 51
abbrev Fn.ref23_begin : Nat := 52
abbrev Fn.ref7_Stripes : Nat := 53
abbrev Fn.patience_Patience_End : Nat := 54
abbrev Fn.patience_Patience_Err : Nat := 55
abbrev Fn.patience_Patience_By : Nat := 56
abbrev Fn.patience_Patience_Stopped : Nat := 57
abbrev Fn.commit_Commit_take : Nat := 58
abbrev Fn.commit_Commit_raise : Nat := 59
abbrev Fn.commit_Commit_proved : Nat := 60
abbrev Fn.commit_Commit_write : Nat := 61
abbrev Fn.commit_Commit_give : Nat := 62
abbrev Fn.commit_Commit_leave : Nat := 63
abbrev Fn.ref23_Step_failed : Nat := 64
abbrev Fn.ref23_Commit_locks : Nat := 65
abbrev Fn.ref23_Commit_out : Nat := 66
abbrev Fn.ref23_Commit_write : Nat := 67
abbrev Fn.ref23_Commit_look : Nat := 68
abbrev Fn.ref23_Commit_free : Nat := 69
abbrev Fn.table_Put : Nat := 70
abbrev Fn.table_Get : Nat := 71
abbrev Fn.table_All : Nat := 72
abbrev Fn.keep_Objects_Do : Nat := 73
abbrev Fn.law18_settle : Nat := 74
abbrev Fn.law18_all : Nat := 75
abbrev Fn.book_Same_api_Pair : Nat := 76
abbrev Fn.keep_Call_Which : Nat := 77
abbrev Fn.levels_New : Nat := 78
abbrev Fn.view_View_Size : Nat := 79
abbrev Fn.keep_Call_Key : Nat := 80
abbrev Fn.keep_Call_Val : Nat := 81
abbrev Fn.table_Del : Nat := 82
abbrev Fn.levels_Levels_Cells : Nat := 83
abbrev Fn.levels_Levels_Frees : Nat := 84
abbrev Fn.levels_Levels_Depth : Nat := 85
abbrev Fn.view_View_is : Nat := 86
abbrev Fn.arena_header : Nat := 87
abbrev Fn.arena_head : Nat := 88
abbrev Fn.slices_IndexFunc_api_Block_api_Block : Nat := 89
abbrev Fn.arena_Lists_1 : Nat := 90
abbrev Fn.slices_Contains_int_int : Nat := 91
abbrev Fn.mem_Held : Nat := 92
abbrev Fn.heap_New : Nat := 93
abbrev Fn.stripe_New : Nat := 94
abbrev Fn.clock_New : Nat := 95
abbrev Fn.epoch_New : Nat := 96
abbrev Fn.mem_Mem_do : Nat := 97
abbrev Fn.stripe_Table_All : Nat := 98
abbrev Fn.heap_Heap_All : Nat := 99
abbrev Fn.clock_Clock_Load : Nat := 100
abbrev Fn.ref1_Held : Nat := 101
abbrev Fn.stripe_Of : Nat := 102
abbrev Fn.slices_Sort_int_int : Nat := 103
abbrev Fn.slices_Compact_int_int : Nat := 104
abbrev Fn.ref1_Of : Nat := 105
abbrev Fn.patience_Patience_Stop : Nat := 106
abbrev Fn.commit_Commit_held : Nat := 107
abbrev Fn.commit_Commit_stop : Nat := 108
abbrev Fn.commit_Commit_begin : Nat := 109
abbrev Fn.commit_Commit_prove : Nat := 110
abbrev Fn.ref23_Step_held : Nat := 111
abbrev Fn.ref23_Commit_own : Nat := 112
abbrev Fn.draft_Do : Nat := 113
abbrev Fn.table_Put_1 : Nat := 114
abbrev Fn.table_open : Nat := 115
abbrev Fn.draft_Draft_OK : Nat := 116
abbrev Fn.table_made : Nat := 117
abbrev Fn.table_table_seek : Nat := 118
abbrev Fn.draft_Draft_Write : Nat := 119
abbrev Fn.table_table_grow : Nat := 120
abbrev Fn.draft_Draft_Alloc : Nat := 121
abbrev Fn.draft_Draft_Point : Nat := 122
abbrev Fn.table_Get_1 : Nat := 123
abbrev Fn.draft_Draft_Read : Nat := 124
abbrev Fn.table_All_1 : Nat := 125
abbrev Fn.table_table_each : Nat := 126
abbrev Fn.table_All_1_1 : Nat := 127
abbrev Fn.slices_SortFunc_api_Pair_api_Pair : Nat := 128
abbrev Fn.table_All_2 : Nat := 129
abbrev Fn.cmp_Compare_uint64 : Nat := 130
abbrev Fn.keep_Objects_Put : Nat := 131
abbrev Fn.keep_Objects_Del : Nat := 132
abbrev Fn.keep_Objects_Find : Nat := 133
abbrev Fn.keep_Objects_Count : Nat := 134
abbrev Fn.ref21_Apply : Nat := 135
abbrev Fn.arena_Give : Nat := 136
abbrev Fn.table_Len : Nat := 137
abbrev Fn.levels_fresh : Nat := 138
abbrev Fn.table_Del_1 : Nat := 139
abbrev Fn.draft_Draft_Free : Nat := 140
abbrev Fn.slices_Backward_levels_level_levels_level : Nat := 141
abbrev Fn.writes_New : Nat := 142
abbrev Fn.writes_Writes_Take : Nat := 143
abbrev Fn.writes_Writes_All : Nat := 144
abbrev Fn.slices_Index_int_int : Nat := 145
abbrev Fn.stripe_near : Nat := 146
abbrev Fn.heap_Heap_Load : Nat := 147
abbrev Fn.heap_Heap_Store : Nat := 148
abbrev Fn.stripe_Table_Load : Nat := 149
abbrev Fn.stripe_Table_Cas : Nat := 150
abbrev Fn.stripe_Table_Store : Nat := 151
abbrev Fn.clock_Clock_Cas : Nat := 152
abbrev Fn.epoch_Slots_Load : Nat := 153
abbrev Fn.epoch_Slots_Store : Nat := 154
abbrev Fn.slices_Clone_api_Lock_api_Lock : Nat := 155
abbrev Fn.slices_Clone_uint64_uint64 : Nat := 156
abbrev Fn.slices_pdqsortOrdered_int : Nat := 157
abbrev Fn.math_bits_Len : Nat := 158
abbrev Fn.patience_Patience_Waits : Nat := 159
abbrev Fn.slices_BinarySearch_int_int : Nat := 160
abbrev Fn.draft_of : Nat := 161
abbrev Fn.view_View_Read : Nat := 162
abbrev Fn.view_View_Take : Nat := 163
abbrev Fn.view_View_Free : Nat := 164
abbrev Fn.draft_Draft_Place : Nat := 165
abbrev Fn.draft_Draft_Fail : Nat := 166
abbrev Fn.table_chain : Nat := 167
abbrev Fn.draft_Draft_Step : Nat := 168
abbrev Fn.view_View_Write : Nat := 169
abbrev Fn.table_table_grow_1 : Nat := 170
abbrev Fn.arena_Alloc : Nat := 171
abbrev Fn.slices_pdqsortCmpFunc_api_Pair : Nat := 172
abbrev Fn.cmp_isNaN_uint64 : Nat := 173
abbrev Fn.ref7_Whole : Nat := 174
abbrev Fn.ref7_View_In : Nat := 175
abbrev Fn.arena_asked : Nat := 176
abbrev Fn.table_Len_1 : Nat := 177
abbrev Fn.arena_Free : Nat := 178
abbrev Fn.slices_Backward_levels_level_levels_level_1 : Nat := 179
abbrev Fn.writes_Writes_Put : Nat := 180
abbrev Fn.heap_Heap_is : Nat := 181
abbrev Fn.stripe_Table_is : Nat := 182
abbrev Fn.stripe_Table_may : Nat := 183
abbrev Fn.epoch_Slots_is : Nat := 184
abbrev Fn.slices_insertionSortOrdered_int : Nat := 185
abbrev Fn.slices_heapSortOrdered_int : Nat := 186
abbrev Fn.slices_breakPatternsOrdered_int : Nat := 187
abbrev Fn.slices_choosePivotOrdered_int : Nat := 188
abbrev Fn.slices_reverseRangeOrdered_int : Nat := 189
abbrev Fn.slices_partialInsertionSortOrdered_int : Nat := 190
abbrev Fn.cmp_Less_int : Nat := 191
abbrev Fn.slices_partitionEqualOrdered_int : Nat := 192
abbrev Fn.slices_partitionOrdered_int : Nat := 193
abbrev Fn.math_bits_Len32 : Nat := 194
abbrev Fn.math_bits_Len64 : Nat := 195
abbrev Fn.slices_isNaN_int : Nat := 196
abbrev Fn.levels_Levels_Get : Nat := 197
abbrev Fn.levels_Levels_Take : Nat := 198
abbrev Fn.levels_Levels_Free : Nat := 199
abbrev Fn.draft_Draft_Name : Nat := 200
abbrev Fn.levels_Levels_Put : Nat := 201
abbrev Fn.arena_Class : Nat := 202
abbrev Fn.arena_again : Nat := 203
abbrev Fn.arena_grown : Nat := 204
abbrev Fn.slices_insertionSortCmpFunc_api_Pair : Nat := 205
abbrev Fn.slices_heapSortCmpFunc_api_Pair : Nat := 206
abbrev Fn.slices_breakPatternsCmpFunc_api_Pair : Nat := 207
abbrev Fn.slices_choosePivotCmpFunc_api_Pair : Nat := 208
abbrev Fn.slices_reverseRangeCmpFunc_api_Pair : Nat := 209
abbrev Fn.slices_partialInsertionSortCmpFunc_api_Pair : Nat := 210
abbrev Fn.slices_partitionEqualCmpFunc_api_Pair : Nat := 211
abbrev Fn.slices_partitionCmpFunc_api_Pair : Nat := 212
abbrev Fn.ref7_NewView : Nat := 213
abbrev Fn.writes_Writes_find : Nat := 214
abbrev Fn.lock_Is : Nat := 215
abbrev Fn.slices_siftDownOrdered_int : Nat := 216
abbrev Fn.slices_nextPowerOfTwo : Nat := 217
abbrev Fn.slices_xorshift_Next : Nat := 218
abbrev Fn.slices_medianAdjacentOrdered_int : Nat := 219
abbrev Fn.slices_medianOrdered_int : Nat := 220
abbrev Fn.cmp_isNaN_int : Nat := 221
abbrev Fn.writes_Writes_Get : Nat := 222
abbrev Fn.levels_Levels_in : Nat := 223
abbrev Fn.levels_Levels_Room : Nat := 224
abbrev Fn.slices_siftDownCmpFunc_api_Pair : Nat := 225
abbrev Fn.slices_medianAdjacentCmpFunc_api_Pair : Nat := 226
abbrev Fn.slices_medianCmpFunc_api_Pair : Nat := 227
abbrev Fn.ref7_NewLevels : Nat := 228
abbrev Fn.slices_IndexFunc_api_Cell_api_Cell : Nat := 229
abbrev Fn.writes_Writes_find_1 : Nat := 230
abbrev Fn.lock_owns : Nat := 231
abbrev Fn.slices_order2Ordered_int : Nat := 232
abbrev Fn.writes_Writes_Len : Nat := 233
abbrev Fn.slices_order2CmpFunc_api_Pair : Nat := 234

/-- law25_CommitRaw -/
def S_law25_CommitRaw (a0 a1 : Value) (K : KV) : World → Prop :=
  boxW a0 (fun x1 => CP Tryz.prog Fn.law25_CommitRuns [] (fun x2 => notW x2 (fun x3 => condP x3 (K (Value.bool false)) (loadNW 9 x1 (fun x4 => CP Tryz.prog Fn.law25_Case_shape [x4] (fun x5 => extractW 0 x5 (fun x6 => extractW 1 x5 (fun x7 => extractW 2 x5 (fun x8 => extractW 3 x5 (fun x9 => extractW 4 x5 (fun x10 => newW #[(Value.int .i64 0), (Value.int .i64 0), (Value.int .i64 0), (Value.int .i64 0), (Value.int .u64 0)] (fun x11 => storeW 5 x11 x6 (fun _ => drewW (addW 0 x1 (fun x13 => load1W x13 (fun x14 => addW 1 x1 (fun x15 => load1W x15 (fun x16 => addW 2 x1 (fun x17 => load1W x17 (fun x18 => convW .u64 x18 (fun x19 => addW 7 x1 (fun x20 => load1W x20 (fun x21 => addW 8 x1 (fun x22 => load1W x22 (fun x23 => addW 0 x1 (fun x24 => load1W x24 (fun x25 => addW 1 x1 (fun x26 => load1W x26 (fun x27 => addW 2 x1 (fun x28 => load1W x28 (fun x29 => convW .u64 x29 (fun x30 => addW 7 x1 (fun x31 => load1W x31 (fun x32 => addW 8 x1 (fun x33 => load1W x33 (fun x34 => CP Tryz.prog Fn.commit_New [x14, x16, x19, x7, x8, x21, x23] (fun x35 => andP (andP (load1W x33 (fun v => eqP v x34)) (andP (load1W x31 (fun v => eqP v x32)) (andP (load1W x28 (fun v => eqP v x29)) (andP (load1W x26 (fun v => eqP v x27)) (andP (load1W x24 (fun v => eqP v x25)) (andP (trueP) (andP (trueP) (andP (trueP) (andP (trueP) (andP (trueP) (trueP))))))))))) (CP Tryz.prog Fn.ref23_NewCommit [x25, x27, x30, x7, x8, x32, x34] (fun x36 => andP (andP (trueP) (andP (trueP) (andP (trueP) (andP (trueP) (andP (trueP) (trueP)))))) (eqNilW .eql x35 (Value.pointer none) (fun x37 => condP x37 (K (Value.bool false)) (loopW1 (Value.int .i64 0) (fun J1 x38 => lenW a1 (fun x39 => binIntW .leq x38 x39 (fun x40 => gW x40 true (fun K => K x38) (fun x41 => gW x40 true (fun K => binIntW .lss x41 (Value.int .i64 60) K) (fun x42 => pickW x40 x42 (Value.bool false) (fun x43 => condP x43 (CP Tryz.prog Fn.commit_Commit_Next [x35] (fun x44 => extractW 0 x44 (fun x45 => extractW 1 x44 (fun x46 => newW #[(Value.int .i64 0), (Value.int .i64 0), (Value.int .u64 0), (Value.int .u64 0), (Value.int .u64 0), (Value.bool false), (Value.int .i64 0), (Value.int .u64 0), (Value.bool false), (Value.int .i64 0)] (fun x47 => storeW 10 x47 x45 (fun _ => buildW [(Value.int .i64 0), (Value.int .i64 0), (Value.int .u64 0), (Value.int .u64 0), (Value.int .u64 0), (Value.bool false), (Value.int .i64 0), (Value.int .u64 0), (Value.bool false), (Value.int .i64 0)] [] (fun x49 => newW #[(Value.int .i64 0), (Value.int .i64 0), (Value.int .u64 0), (Value.int .u64 0), (Value.int .u64 0), (Value.bool false), (Value.int .i64 0), (Value.int .u64 0), (Value.bool false), (Value.int .i64 0)] (fun x50 => storeW 10 x50 x49 (fun _ => nilW x36 (fun x52 => addW 0 x52 (fun x53 => addW 2 x53 (fun x54 => load1W x54 (fun x55 => binIntW .eql x55 (Value.int .i64 0) (fun x56 => joinW0 (drewW (nilW x36 (fun x57 => addW 0 x57 (fun x58 => addW 2 x58 (fun x59 => load1W x59 (fun x60 => binIntW .eql x60 (Value.int .i64 0) (fun x61 => binBoolW .neq x46 x61 (fun x62 => gW x62 false (fun K => loadNW 10 x47 K) (fun x63 => gW x62 false (fun K => loadNW 10 x50 K) (fun x64 => gW x62 false (fun K => eqAggW [.i .i64, .i .i64, .i .u64, .i .u64, .i .u64, .b, .i .i64, .i .u64, .b, .i .i64] .neq x63 x64 K) (fun x65 => pickW x62 (Value.bool true) x65 (fun x66 => gW x66 false (fun K => K x35) (fun x67 => gW x66 false (fun K => K x36) (fun x68 => gW x66 false (fun K => nilW x68 K) (fun x69 => gW x66 false (fun K => addW 0 x69 K) (fun x70 => gW x66 false (fun K => addW 2 x70 K) (fun x71 => gW x66 false (fun K => load1W x71 K) (fun x72 => gW x66 false (fun K => CP Tryz.prog Fn.commit_Commit_End [x67] K) (fun x73 => andP (andP (gW x66 false (fun K => load1W x71 K) (fun v => eqP v x72)) (andP (trueP) (andP (trueP) (andP (trueP) (trueP))))) (gW x66 false (fun K => binIntW .neq x73 x72 K) (fun x74 => pickW x66 (Value.bool true) x74 (fun x75 => gW x75 false (fun K => K x35) (fun x76 => gW x75 false (fun K => K x36) (fun x77 => gW x75 false (fun K => nilW x77 K) (fun x78 => gW x75 false (fun K => addW 0 x78 K) (fun x79 => gW x75 false (fun K => addW 3 x79 K) (fun x80 => gW x75 false (fun K => load1W x80 K) (fun x81 => gW x75 false (fun K => CP Tryz.prog Fn.commit_Commit_Err [x76] K) (fun x82 => andP (andP (gW x75 false (fun K => load1W x80 K) (fun v => eqP v x81)) (andP (trueP) (trueP))) (gW x75 false (fun K => binIntW .neq x82 x81 K) (fun x83 => pickW x75 (Value.bool true) x83 (fun x84 => gW x84 false (fun K => K x35) (fun x85 => gW x84 false (fun K => K x36) (fun x86 => gW x84 false (fun K => nilW x86 K) (fun x87 => gW x84 false (fun K => addW 0 x87 K) (fun x88 => gW x84 false (fun K => addW 4 x88 K) (fun x89 => gW x84 false (fun K => load1W x89 K) (fun x90 => gW x84 false (fun K => CP Tryz.prog Fn.commit_Commit_By [x85] K) (fun x91 => andP (andP (gW x84 false (fun K => load1W x89 K) (fun v => eqP v x90)) (andP (trueP) (trueP))) (gW x84 false (fun K => binIntW .neq x91 x90 K) (fun x92 => pickW x84 (Value.bool true) x92 (fun x93 => condP x93 (K (Value.bool false)) (lenW a1 (fun x94 => binIntW .lss x38 x94 (fun x95 => joinW0 (binIntW .add x38 (Value.int .i64 1) (fun x96 => J1 x96)) (fun j2 => condP x95 (idxW 6 a1 x38 (fun x97 => loadNW 6 x97 (fun x98 => newW #[(Value.int .u64 0), (Value.int .u64 0), (Value.bool false), (Value.int .i64 0), (Value.bool false), (Value.int .i64 0)] (fun x99 => storeW 6 x99 x98 (fun _ => binIntW .rem x38 (Value.int .i64 5) (fun x101 => binIntW .lss x101 (Value.int .i64 4) (fun x102 => joinW0 (binIntW .rem x38 (Value.int .i64 3) (fun x103 => binIntW .gtr x103 (Value.int .i64 0) (fun x104 => joinW0 (loadNW 6 x99 (fun x105 => CP Tryz.prog Fn.commit_Commit_Tell [x35, x105] (fun x106 => loadNW 6 x99 (fun x107 => CP Tryz.prog Fn.ref23_Commit_Tell [x36, x107] (fun x108 => j2))))) (fun j4 => condP x104 (addW 1 x99 (fun x109 => addW 0 x109 (fun x110 => load1W x110 (fun x111 => binIntW .rem x111 (Value.int .u64 2) (fun x112 => buildW [(Value.int .u64 0), (Value.bool false), (Value.int .i64 0)] [(0, 1, x112)] (fun x113 => addW 4 x99 (fun x114 => storeW 1 x114 (Value.bool true) (fun _ => addW 1 x99 (fun x116 => storeW 3 x116 x113 (fun _ => j4)))))))))) (j4))))) (fun j3 => condP x102 (addW 5 x99 (fun x118 => storeW 1 x118 (Value.int .i64 0) (fun _ => j3))) (j3))))))))) (j2))))))))))))))))))))))))))))))))))))))))))))))) (fun j1 => condP x56 (CP Tryz.prog Fn.ref23_Commit_Next [x36] (fun x120 => storeW 10 x50 x120 (fun _ => j1))) (j1)))))))))))))))) (K (Value.bool true))))))))))))))))))))))))))))))))))))))))))))))))))

/-- law25_CommitRuns -/
def S_law25_CommitRuns (K : KV) : World → Prop :=
  buildW [(Value.int .i64 0), (Value.int .i64 0), (Value.int .i64 0), (Value.int .i64 0), (Value.int .u64 0)] [(0, 1, (Value.int .i64 32)), (1, 1, (Value.int .i64 4)), (2, 1, (Value.int .i64 1)), (3, 1, (Value.int .i64 2)), (4, 1, (Value.int .u64 5))] (fun x1 => CP Tryz.prog Fn.mem_New [x1] (fun x2 => buildW [(Value.int .i64 0), (Value.int .u64 0)] [(0, 1, (Value.int .i64 9)), (1, 1, (Value.int .u64 7))] (fun x3 => buildSliceW [(Value.int .i64 0), (Value.int .u64 0)] 1 [(0, 2, x3)] (fun x4 => CP Tryz.prog Fn.commit_New [(Value.int .i64 0), (Value.int .i64 2), (Value.int .u64 5), (Value.slice none 0 0), x4, (Value.int .i64 4), (Value.int .i64 1)] (fun x5 => eqNilW .eql x2 (Value.pointer none) (fun x6 => gW x6 false (fun K => K x5) (fun x7 => gW x6 false (fun K => eqNilW .eql x7 (Value.pointer none) K) (fun x8 => pickW x6 (Value.bool true) x8 (fun x9 => condP x9 (K (Value.bool false)) (buildSliceW [(Value.int .i64 0)] 6 [(0, 1, (Value.int .i64 3)), (1, 1, (Value.int .i64 4)), (2, 1, (Value.int .i64 6)), (3, 1, (Value.int .i64 7)), (4, 1, (Value.int .i64 2)), (5, 1, (Value.int .i64 5))] (fun x10 => loopW1 (Value.int .i64 0) (fun J1 x11 => lenW x10 (fun x12 => binIntW .lss x11 x12 (fun x13 => condP x13 (CP Tryz.prog Fn.commit_Commit_Next [x5] (fun x14 => extractW 0 x14 (fun x15 => extractW 1 x14 (fun x16 => newW #[(Value.int .i64 0), (Value.int .i64 0), (Value.int .u64 0), (Value.int .u64 0), (Value.int .u64 0), (Value.bool false), (Value.int .i64 0), (Value.int .u64 0), (Value.bool false), (Value.int .i64 0)] (fun x17 => storeW 10 x17 x15 (fun _ => drewW (notW x16 (fun x19 => gW x19 false (fun K => addW 0 x17 K) (fun x20 => gW x19 false (fun K => load1W x20 K) (fun x21 => gW x19 false (fun K => K x10) (fun x22 => gW x19 false (fun K => K x11) (fun x23 => gW x19 false (fun K => idxW 1 x22 x23 K) (fun x24 => gW x19 false (fun K => load1W x24 K) (fun x25 => gW x19 false (fun K => binIntW .neq x21 x25 K) (fun x26 => pickW x19 (Value.bool true) x26 (fun x27 => gW x27 false (fun K => K x5) (fun x28 => gW x27 false (fun K => K x11) (fun x29 => gW x27 false (fun K => binIntW .gtr x29 (Value.int .i64 3) K) (fun x30 => gW x27 false (fun K => CP Tryz.prog Fn.commit_Commit_Writing [x28] K) (fun x31 => andP (andP (trueP) (andP (trueP) (trueP))) (gW x27 false (fun K => binBoolW .neq x31 x30 K) (fun x32 => pickW x27 (Value.bool true) x32 (fun x33 => condP x33 (K (Value.bool false)) (loadNW 10 x17 (fun x34 => CP Tryz.prog Fn.mem_Mem_Do [x2, x34] (fun x35 => CP Tryz.prog Fn.commit_Commit_Tell [x5, x35] (fun x36 => binIntW .add x11 (Value.int .i64 1) (fun x37 => J1 x37)))))))))))))))))))))))))))) (CP Tryz.prog Fn.mem_Mem_Locks [x2] (fun x38 => CP Tryz.prog Fn.mem_Mem_Words [x2] (fun x39 => CP Tryz.prog Fn.commit_Commit_End [x5] (fun x40 => binIntW .eql x40 (Value.int .i64 2) (fun x41 => gW x41 true (fun K => K x5) (fun x42 => gW x41 true (fun K => CP Tryz.prog Fn.commit_Commit_Stamp [x42] K) (fun x43 => gW x41 true (fun K => binIntW .eql x43 (Value.int .u64 6) K) (fun x44 => pickW x41 x44 (Value.bool false) (fun x45 => gW x45 true (fun K => K x38) (fun x46 => gW x45 true (fun K => lenW x46 K) (fun x47 => gW x45 true (fun K => binIntW .eql x47 (Value.int .i64 4) K) (fun x48 => pickW x45 x48 (Value.bool false) (fun x49 => gW x49 true (fun K => K x38) (fun x50 => gW x49 true (fun K => idxW 3 x50 (Value.int .i64 1) K) (fun x51 => gW x49 true (fun K => loadNW 3 x51 K) (fun x52 => gW x49 true (fun K => buildW [(Value.int .u64 0), (Value.bool false), (Value.int .i64 0)] [(0, 1, (Value.int .u64 6))] K) (fun x53 => gW x49 true (fun K => eqAggW [.i .u64, .b, .i .i64] .eql x52 x53 K) (fun x54 => pickW x49 x54 (Value.bool false) (fun x55 => gW x55 true (fun K => K x39) (fun x56 => gW x55 true (fun K => lenW x56 K) (fun x57 => gW x55 true (fun K => binIntW .eql x57 (Value.int .i64 32) K) (fun x58 => pickW x55 x58 (Value.bool false) (fun x59 => gW x59 true (fun K => K x39) (fun x60 => gW x59 true (fun K => idxW 1 x60 (Value.int .i64 9) K) (fun x61 => gW x59 true (fun K => load1W x61 K) (fun x62 => gW x59 true (fun K => binIntW .eql x62 (Value.int .u64 7) K) (fun x63 => pickW x59 x63 (Value.bool false) (fun x64 => gW x64 true (fun K => K x2) (fun x65 => gW x64 true (fun K => CP Tryz.prog Fn.mem_Mem_Now [x65] K) (fun x66 => gW x64 true (fun K => binIntW .eql x66 (Value.int .u64 6) K) (fun x67 => pickW x64 x67 (Value.bool false) (fun x68 => K x68))))))))))))))))))))))))))))))))))))))))))))))

/-- law25_Case_shape -/
def S_law25_Case_shape (a0 : Value) (K : KV) : World → Prop :=
  boxW a0 (fun x1 => newW #[(Value.int .i64 0), (Value.int .i64 0), (Value.int .i64 0), (Value.int .i64 0), (Value.int .u64 0)] (fun x2 => drewW (addW 7 x1 (fun x3 => load1W x3 (fun x4 => addW 8 x1 (fun x5 => load1W x5 (fun x6 => addW 6 x1 (fun x7 => load1W x7 (fun x8 => binIntW .rem x8 (Value.int .u64 6) (fun x9 => andP (CP Tryz.prog Fn.book_Within [x4, (Value.int .i64 1), (Value.int .i64 6)] (fun x10 => andP (andP (load1W x7 (fun v => eqP v x8)) (andP (load1W x5 (fun v => eqP v x6)) (andP (trueP) (trueP)))) (andP (CP Tryz.prog Fn.book_Within [x6, (Value.int .i64 1), (Value.int .i64 3)] (fun x11 => andP (andP (load1W x7 (fun v => eqP v x8)) (andP (trueP) (trueP))) (buildW [(Value.int .i64 0), (Value.int .i64 0), (Value.int .i64 0), (Value.int .i64 0), (Value.int .u64 0)] [(0, 1, (Value.int .i64 40)), (1, 1, x10), (2, 1, x11), (3, 1, (Value.int .i64 4)), (4, 1, x9)] (fun x12 => andP (CP Tryz.prog Fn.ref1_Shape [x12] (fun x13 => andP (andP (trueP) (trueP)) (newW #[(Value.int .i64 0), (Value.int .i64 0), (Value.int .i64 0), (Value.int .i64 0), (Value.int .u64 0)] (fun x14 => andP (trueP) (storeW 5 x14 x13 (fun _ => andP (trueP) (addW 6 x1 (fun x16 => load1W x16 (fun x17 => binIntW .rem x17 (Value.int .u64 17) (fun x18 => binIntW .eql x18 (Value.int .u64 16) (fun x19 => joinW0 (loopW2 (Value.slice none 0 0) (Value.int .i64 0) (fun J1 x20 x21 => addW 3 x1 (fun x22 => load1W x22 (fun x23 => lenW x23 (fun x24 => binIntW .lss x21 x24 (fun x25 => gW x25 true (fun K => K x21) (fun x26 => gW x25 true (fun K => binIntW .lss x26 (Value.int .i64 6) K) (fun x27 => pickW x25 x27 (Value.bool false) (fun x28 => condP x28 (drewW (addW 3 x1 (fun x29 => load1W x29 (fun x30 => idxW 2 x30 x21 (fun x31 => addW 0 x31 (fun x32 => load1W x32 (fun x33 => addW 1 x14 (fun x34 => load1W x34 (fun x35 => binIntW .sub x35 (Value.int .i64 1) (fun x36 => addW 3 x1 (fun x37 => load1W x37 (fun x38 => idxW 2 x38 x21 (fun x39 => addW 1 x39 (fun x40 => load1W x40 (fun x41 => binIntW .rem x41 (Value.int .u64 8) (fun x42 => binIntW .quo x42 (Value.int .u64 7) (fun x43 => CP Tryz.prog Fn.book_Within [x33, (Value.int .i64 0), x36] (fun x44 => andP (andP (load1W x40 (fun v => eqP v x41)) (andP (load1W x37 (fun v => eqP v x38)) (andP (trueP) (andP (trueP) (andP (trueP) (trueP)))))) (buildW [(Value.int .i64 0), (Value.int .u64 0)] [(0, 1, x44), (1, 1, x43)] (fun x45 => buildSliceW [(Value.int .i64 0), (Value.int .u64 0)] 1 [(0, 2, x45)] (fun x46 => andP (andP (trueP) (andP (trueP) (trueP))) (appendW 2 16 x20 x46 (fun x47 => andP (trueP) (binIntW .add x21 (Value.int .i64 1) (fun x48 => J1 x47 x48))))))))))))))))))))))))) (loopW2 (Value.slice none 0 0) (Value.int .i64 0) (fun J2 x49 x50 => addW 4 x1 (fun x51 => load1W x51 (fun x52 => lenW x52 (fun x53 => binIntW .lss x50 x53 (fun x54 => gW x54 true (fun K => K x50) (fun x55 => gW x54 true (fun K => binIntW .lss x55 (Value.int .i64 6) K) (fun x56 => pickW x54 x56 (Value.bool false) (fun x57 => condP x57 (drewW (addW 4 x1 (fun x58 => load1W x58 (fun x59 => idxW 2 x59 x50 (fun x60 => addW 0 x60 (fun x61 => load1W x61 (fun x62 => addW 4 x1 (fun x63 => load1W x63 (fun x64 => idxW 2 x64 x50 (fun x65 => addW 1 x65 (fun x66 => load1W x66 (fun x67 => CP Tryz.prog Fn.book_Within [x62, (Value.int .i64 1), (Value.int .i64 39)] (fun x68 => andP (andP (load1W x66 (fun v => eqP v x67)) (andP (load1W x63 (fun v => eqP v x64)) (andP (trueP) (andP (trueP) (trueP))))) (buildW [(Value.int .i64 0), (Value.int .u64 0)] [(0, 1, x68), (1, 1, x67)] (fun x69 => buildSliceW [(Value.int .i64 0), (Value.int .u64 0)] 1 [(0, 2, x69)] (fun x70 => andP (andP (trueP) (andP (trueP) (trueP))) (appendW 2 16 x49 x70 (fun x71 => andP (trueP) (binIntW .add x50 (Value.int .i64 1) (fun x72 => J2 x71 x72)))))))))))))))))))) (drewW (loadNW 5 x14 (fun x73 => addW 0 x1 (fun x74 => load1W x74 (fun x75 => addW 4 x14 (fun x76 => load1W x76 (fun x77 => addW 2 x1 (fun x78 => load1W x78 (fun x79 => CP Tryz.prog Fn.book_Within [x75, (Value.int .i64 0), (Value.int .i64 3)] (fun x80 => andP (andP (load1W x78 (fun v => eqP v x79)) (andP (load1W x76 (fun v => eqP v x77)) (andP (trueP) (andP (loadNW 5 x14 (fun v => eqP v x73)) (trueP))))) (CP Tryz.prog Fn.book_Within [x79, (Value.int .i64 0), (Value.int .i64 4)] (fun x81 => andP (andP (trueP) (andP (load1W x76 (fun v => eqP v x77)) (andP (loadNW 5 x14 (fun v => eqP v x73)) (trueP)))) (binIntW .quo x81 (Value.int .i64 3) (fun x82 => convW .u64 x82 (fun x83 => binIntW .sub x77 x83 (fun x84 => storeW 5 x2 x73 (fun _ => andP (andP (load1W x76 (fun v => eqP v x77)) (andP (trueP) (trueP))) (loadNW 5 x2 (fun x86 => K (Value.tuple #[x86, x20, x49, x80, x84])))))))))))))))))))))))))))))))))))))) (fun j1 => condP x19 (addW 6 x1 (fun x87 => load1W x87 (fun x88 => binIntW .rem x88 (Value.int .u64 3) (fun x89 => binIntW .sub (Value.int .u64 4611686018427387903) x89 (fun x90 => addW 4 x14 (fun x91 => storeW 1 x91 x90 (fun _ => j1))))))) (j1))))))))))))) (newW #[(Value.int .i64 0), (Value.int .i64 0), (Value.int .i64 0), (Value.int .i64 0), (Value.int .u64 0)] (fun x93 => andP (andP (load1W x7 (fun v => eqP v x8)) (trueP)) (CP Tryz.prog Fn.ref1_Shape [x12] (fun x94 => andP (andP (trueP) (trueP)) (storeW 5 x93 x94 (fun _ => andP (trueP) (addW 6 x1 (fun x96 => load1W x96 (fun x97 => binIntW .rem x97 (Value.int .u64 17) (fun x98 => binIntW .eql x98 (Value.int .u64 16) (fun x99 => joinW0 (loopW2 (Value.slice none 0 0) (Value.int .i64 0) (fun J3 x100 x101 => addW 3 x1 (fun x102 => load1W x102 (fun x103 => lenW x103 (fun x104 => binIntW .lss x101 x104 (fun x105 => gW x105 true (fun K => K x101) (fun x106 => gW x105 true (fun K => binIntW .lss x106 (Value.int .i64 6) K) (fun x107 => pickW x105 x107 (Value.bool false) (fun x108 => condP x108 (drewW (addW 3 x1 (fun x109 => load1W x109 (fun x110 => idxW 2 x110 x101 (fun x111 => addW 0 x111 (fun x112 => load1W x112 (fun x113 => addW 1 x93 (fun x114 => load1W x114 (fun x115 => binIntW .sub x115 (Value.int .i64 1) (fun x116 => addW 3 x1 (fun x117 => load1W x117 (fun x118 => idxW 2 x118 x101 (fun x119 => addW 1 x119 (fun x120 => load1W x120 (fun x121 => binIntW .rem x121 (Value.int .u64 8) (fun x122 => binIntW .quo x122 (Value.int .u64 7) (fun x123 => CP Tryz.prog Fn.book_Within [x113, (Value.int .i64 0), x116] (fun x124 => andP (andP (load1W x120 (fun v => eqP v x121)) (andP (load1W x117 (fun v => eqP v x118)) (andP (trueP) (andP (trueP) (andP (trueP) (trueP)))))) (buildW [(Value.int .i64 0), (Value.int .u64 0)] [(0, 1, x124), (1, 1, x123)] (fun x125 => buildSliceW [(Value.int .i64 0), (Value.int .u64 0)] 1 [(0, 2, x125)] (fun x126 => andP (andP (trueP) (andP (trueP) (trueP))) (appendW 2 16 x100 x126 (fun x127 => andP (trueP) (binIntW .add x101 (Value.int .i64 1) (fun x128 => J3 x127 x128))))))))))))))))))))))))) (loopW2 (Value.slice none 0 0) (Value.int .i64 0) (fun J4 x129 x130 => addW 4 x1 (fun x131 => load1W x131 (fun x132 => lenW x132 (fun x133 => binIntW .lss x130 x133 (fun x134 => gW x134 true (fun K => K x130) (fun x135 => gW x134 true (fun K => binIntW .lss x135 (Value.int .i64 6) K) (fun x136 => pickW x134 x136 (Value.bool false) (fun x137 => condP x137 (drewW (addW 4 x1 (fun x138 => load1W x138 (fun x139 => idxW 2 x139 x130 (fun x140 => addW 0 x140 (fun x141 => load1W x141 (fun x142 => addW 4 x1 (fun x143 => load1W x143 (fun x144 => idxW 2 x144 x130 (fun x145 => addW 1 x145 (fun x146 => load1W x146 (fun x147 => CP Tryz.prog Fn.book_Within [x142, (Value.int .i64 1), (Value.int .i64 39)] (fun x148 => andP (andP (load1W x146 (fun v => eqP v x147)) (andP (load1W x143 (fun v => eqP v x144)) (andP (trueP) (andP (trueP) (trueP))))) (buildW [(Value.int .i64 0), (Value.int .u64 0)] [(0, 1, x148), (1, 1, x147)] (fun x149 => buildSliceW [(Value.int .i64 0), (Value.int .u64 0)] 1 [(0, 2, x149)] (fun x150 => andP (andP (trueP) (andP (trueP) (trueP))) (appendW 2 16 x129 x150 (fun x151 => andP (trueP) (binIntW .add x130 (Value.int .i64 1) (fun x152 => J4 x151 x152)))))))))))))))))))) (drewW (loadNW 5 x93 (fun x153 => addW 0 x1 (fun x154 => load1W x154 (fun x155 => addW 4 x93 (fun x156 => load1W x156 (fun x157 => addW 2 x1 (fun x158 => load1W x158 (fun x159 => CP Tryz.prog Fn.book_Within [x155, (Value.int .i64 0), (Value.int .i64 3)] (fun x160 => andP (andP (load1W x158 (fun v => eqP v x159)) (andP (load1W x156 (fun v => eqP v x157)) (andP (trueP) (andP (loadNW 5 x93 (fun v => eqP v x153)) (trueP))))) (CP Tryz.prog Fn.book_Within [x159, (Value.int .i64 0), (Value.int .i64 4)] (fun x161 => andP (andP (trueP) (andP (load1W x156 (fun v => eqP v x157)) (andP (loadNW 5 x93 (fun v => eqP v x153)) (trueP)))) (binIntW .quo x161 (Value.int .i64 3) (fun x162 => convW .u64 x162 (fun x163 => binIntW .sub x157 x163 (fun x164 => storeW 5 x2 x153 (fun _ => andP (andP (load1W x156 (fun v => eqP v x157)) (andP (trueP) (trueP))) (loadNW 5 x2 (fun x166 => K (Value.tuple #[x166, x100, x129, x160, x164])))))))))))))))))))))))))))))))))))))) (fun j2 => condP x99 (addW 6 x1 (fun x167 => load1W x167 (fun x168 => binIntW .rem x168 (Value.int .u64 3) (fun x169 => binIntW .sub (Value.int .u64 4611686018427387903) x169 (fun x170 => addW 4 x93 (fun x171 => storeW 1 x171 x170 (fun _ => j2))))))) (j2))))))))))))))))) (newW #[(Value.int .i64 0), (Value.int .i64 0), (Value.int .i64 0), (Value.int .i64 0), (Value.int .u64 0)] (fun x173 => andP (andP (load1W x7 (fun v => eqP v x8)) (andP (load1W x5 (fun v => eqP v x6)) (trueP))) (CP Tryz.prog Fn.book_Within [x6, (Value.int .i64 1), (Value.int .i64 3)] (fun x174 => andP (andP (load1W x7 (fun v => eqP v x8)) (andP (trueP) (trueP))) (buildW [(Value.int .i64 0), (Value.int .i64 0), (Value.int .i64 0), (Value.int .i64 0), (Value.int .u64 0)] [(0, 1, (Value.int .i64 40)), (1, 1, x10), (2, 1, x174), (3, 1, (Value.int .i64 4)), (4, 1, x9)] (fun x175 => CP Tryz.prog Fn.ref1_Shape [x175] (fun x176 => andP (andP (trueP) (trueP)) (storeW 5 x173 x176 (fun _ => andP (trueP) (addW 6 x1 (fun x178 => load1W x178 (fun x179 => binIntW .rem x179 (Value.int .u64 17) (fun x180 => binIntW .eql x180 (Value.int .u64 16) (fun x181 => joinW0 (loopW2 (Value.slice none 0 0) (Value.int .i64 0) (fun J5 x182 x183 => addW 3 x1 (fun x184 => load1W x184 (fun x185 => lenW x185 (fun x186 => binIntW .lss x183 x186 (fun x187 => gW x187 true (fun K => K x183) (fun x188 => gW x187 true (fun K => binIntW .lss x188 (Value.int .i64 6) K) (fun x189 => pickW x187 x189 (Value.bool false) (fun x190 => condP x190 (drewW (addW 3 x1 (fun x191 => load1W x191 (fun x192 => idxW 2 x192 x183 (fun x193 => addW 0 x193 (fun x194 => load1W x194 (fun x195 => addW 1 x173 (fun x196 => load1W x196 (fun x197 => binIntW .sub x197 (Value.int .i64 1) (fun x198 => addW 3 x1 (fun x199 => load1W x199 (fun x200 => idxW 2 x200 x183 (fun x201 => addW 1 x201 (fun x202 => load1W x202 (fun x203 => binIntW .rem x203 (Value.int .u64 8) (fun x204 => binIntW .quo x204 (Value.int .u64 7) (fun x205 => CP Tryz.prog Fn.book_Within [x195, (Value.int .i64 0), x198] (fun x206 => andP (andP (load1W x202 (fun v => eqP v x203)) (andP (load1W x199 (fun v => eqP v x200)) (andP (trueP) (andP (trueP) (andP (trueP) (trueP)))))) (buildW [(Value.int .i64 0), (Value.int .u64 0)] [(0, 1, x206), (1, 1, x205)] (fun x207 => buildSliceW [(Value.int .i64 0), (Value.int .u64 0)] 1 [(0, 2, x207)] (fun x208 => andP (andP (trueP) (andP (trueP) (trueP))) (appendW 2 16 x182 x208 (fun x209 => andP (trueP) (binIntW .add x183 (Value.int .i64 1) (fun x210 => J5 x209 x210))))))))))))))))))))))))) (loopW2 (Value.slice none 0 0) (Value.int .i64 0) (fun J6 x211 x212 => addW 4 x1 (fun x213 => load1W x213 (fun x214 => lenW x214 (fun x215 => binIntW .lss x212 x215 (fun x216 => gW x216 true (fun K => K x212) (fun x217 => gW x216 true (fun K => binIntW .lss x217 (Value.int .i64 6) K) (fun x218 => pickW x216 x218 (Value.bool false) (fun x219 => condP x219 (drewW (addW 4 x1 (fun x220 => load1W x220 (fun x221 => idxW 2 x221 x212 (fun x222 => addW 0 x222 (fun x223 => load1W x223 (fun x224 => addW 4 x1 (fun x225 => load1W x225 (fun x226 => idxW 2 x226 x212 (fun x227 => addW 1 x227 (fun x228 => load1W x228 (fun x229 => CP Tryz.prog Fn.book_Within [x224, (Value.int .i64 1), (Value.int .i64 39)] (fun x230 => andP (andP (load1W x228 (fun v => eqP v x229)) (andP (load1W x225 (fun v => eqP v x226)) (andP (trueP) (andP (trueP) (trueP))))) (buildW [(Value.int .i64 0), (Value.int .u64 0)] [(0, 1, x230), (1, 1, x229)] (fun x231 => buildSliceW [(Value.int .i64 0), (Value.int .u64 0)] 1 [(0, 2, x231)] (fun x232 => andP (andP (trueP) (andP (trueP) (trueP))) (appendW 2 16 x211 x232 (fun x233 => andP (trueP) (binIntW .add x212 (Value.int .i64 1) (fun x234 => J6 x233 x234)))))))))))))))))))) (drewW (loadNW 5 x173 (fun x235 => addW 0 x1 (fun x236 => load1W x236 (fun x237 => addW 4 x173 (fun x238 => load1W x238 (fun x239 => addW 2 x1 (fun x240 => load1W x240 (fun x241 => CP Tryz.prog Fn.book_Within [x237, (Value.int .i64 0), (Value.int .i64 3)] (fun x242 => andP (andP (load1W x240 (fun v => eqP v x241)) (andP (load1W x238 (fun v => eqP v x239)) (andP (trueP) (andP (loadNW 5 x173 (fun v => eqP v x235)) (trueP))))) (CP Tryz.prog Fn.book_Within [x241, (Value.int .i64 0), (Value.int .i64 4)] (fun x243 => andP (andP (trueP) (andP (load1W x238 (fun v => eqP v x239)) (andP (loadNW 5 x173 (fun v => eqP v x235)) (trueP)))) (binIntW .quo x243 (Value.int .i64 3) (fun x244 => convW .u64 x244 (fun x245 => binIntW .sub x239 x245 (fun x246 => storeW 5 x2 x235 (fun _ => andP (andP (load1W x238 (fun v => eqP v x239)) (andP (trueP) (trueP))) (loadNW 5 x2 (fun x248 => K (Value.tuple #[x248, x182, x211, x242, x246])))))))))))))))))))))))))))))))))))))) (fun j3 => condP x181 (addW 6 x1 (fun x249 => load1W x249 (fun x250 => binIntW .rem x250 (Value.int .u64 3) (fun x251 => binIntW .sub (Value.int .u64 4611686018427387903) x251 (fun x252 => addW 4 x173 (fun x253 => storeW 1 x253 x252 (fun _ => j3))))))) (j3))))))))))))))))))) (newW #[(Value.int .i64 0), (Value.int .i64 0), (Value.int .i64 0), (Value.int .i64 0), (Value.int .u64 0)] (fun x255 => andP (andP (load1W x7 (fun v => eqP v x8)) (andP (load1W x5 (fun v => eqP v x6)) (andP (load1W x3 (fun v => eqP v x4)) (trueP)))) (CP Tryz.prog Fn.book_Within [x4, (Value.int .i64 1), (Value.int .i64 6)] (fun x256 => andP (andP (load1W x7 (fun v => eqP v x8)) (andP (load1W x5 (fun v => eqP v x6)) (andP (trueP) (trueP)))) (CP Tryz.prog Fn.book_Within [x6, (Value.int .i64 1), (Value.int .i64 3)] (fun x257 => andP (andP (load1W x7 (fun v => eqP v x8)) (andP (trueP) (trueP))) (buildW [(Value.int .i64 0), (Value.int .i64 0), (Value.int .i64 0), (Value.int .i64 0), (Value.int .u64 0)] [(0, 1, (Value.int .i64 40)), (1, 1, x256), (2, 1, x257), (3, 1, (Value.int .i64 4)), (4, 1, x9)] (fun x258 => CP Tryz.prog Fn.ref1_Shape [x258] (fun x259 => andP (andP (trueP) (trueP)) (storeW 5 x255 x259 (fun _ => andP (trueP) (addW 6 x1 (fun x261 => load1W x261 (fun x262 => binIntW .rem x262 (Value.int .u64 17) (fun x263 => binIntW .eql x263 (Value.int .u64 16) (fun x264 => joinW0 (loopW2 (Value.slice none 0 0) (Value.int .i64 0) (fun J7 x265 x266 => addW 3 x1 (fun x267 => load1W x267 (fun x268 => lenW x268 (fun x269 => binIntW .lss x266 x269 (fun x270 => gW x270 true (fun K => K x266) (fun x271 => gW x270 true (fun K => binIntW .lss x271 (Value.int .i64 6) K) (fun x272 => pickW x270 x272 (Value.bool false) (fun x273 => condP x273 (drewW (addW 3 x1 (fun x274 => load1W x274 (fun x275 => idxW 2 x275 x266 (fun x276 => addW 0 x276 (fun x277 => load1W x277 (fun x278 => addW 1 x255 (fun x279 => load1W x279 (fun x280 => binIntW .sub x280 (Value.int .i64 1) (fun x281 => addW 3 x1 (fun x282 => load1W x282 (fun x283 => idxW 2 x283 x266 (fun x284 => addW 1 x284 (fun x285 => load1W x285 (fun x286 => binIntW .rem x286 (Value.int .u64 8) (fun x287 => binIntW .quo x287 (Value.int .u64 7) (fun x288 => CP Tryz.prog Fn.book_Within [x278, (Value.int .i64 0), x281] (fun x289 => andP (andP (load1W x285 (fun v => eqP v x286)) (andP (load1W x282 (fun v => eqP v x283)) (andP (trueP) (andP (trueP) (andP (trueP) (trueP)))))) (buildW [(Value.int .i64 0), (Value.int .u64 0)] [(0, 1, x289), (1, 1, x288)] (fun x290 => buildSliceW [(Value.int .i64 0), (Value.int .u64 0)] 1 [(0, 2, x290)] (fun x291 => andP (andP (trueP) (andP (trueP) (trueP))) (appendW 2 16 x265 x291 (fun x292 => andP (trueP) (binIntW .add x266 (Value.int .i64 1) (fun x293 => J7 x292 x293))))))))))))))))))))))))) (loopW2 (Value.slice none 0 0) (Value.int .i64 0) (fun J8 x294 x295 => addW 4 x1 (fun x296 => load1W x296 (fun x297 => lenW x297 (fun x298 => binIntW .lss x295 x298 (fun x299 => gW x299 true (fun K => K x295) (fun x300 => gW x299 true (fun K => binIntW .lss x300 (Value.int .i64 6) K) (fun x301 => pickW x299 x301 (Value.bool false) (fun x302 => condP x302 (drewW (addW 4 x1 (fun x303 => load1W x303 (fun x304 => idxW 2 x304 x295 (fun x305 => addW 0 x305 (fun x306 => load1W x306 (fun x307 => addW 4 x1 (fun x308 => load1W x308 (fun x309 => idxW 2 x309 x295 (fun x310 => addW 1 x310 (fun x311 => load1W x311 (fun x312 => CP Tryz.prog Fn.book_Within [x307, (Value.int .i64 1), (Value.int .i64 39)] (fun x313 => andP (andP (load1W x311 (fun v => eqP v x312)) (andP (load1W x308 (fun v => eqP v x309)) (andP (trueP) (andP (trueP) (trueP))))) (buildW [(Value.int .i64 0), (Value.int .u64 0)] [(0, 1, x313), (1, 1, x312)] (fun x314 => buildSliceW [(Value.int .i64 0), (Value.int .u64 0)] 1 [(0, 2, x314)] (fun x315 => andP (andP (trueP) (andP (trueP) (trueP))) (appendW 2 16 x294 x315 (fun x316 => andP (trueP) (binIntW .add x295 (Value.int .i64 1) (fun x317 => J8 x316 x317)))))))))))))))))))) (drewW (loadNW 5 x255 (fun x318 => addW 0 x1 (fun x319 => load1W x319 (fun x320 => addW 4 x255 (fun x321 => load1W x321 (fun x322 => addW 2 x1 (fun x323 => load1W x323 (fun x324 => CP Tryz.prog Fn.book_Within [x320, (Value.int .i64 0), (Value.int .i64 3)] (fun x325 => andP (andP (load1W x323 (fun v => eqP v x324)) (andP (load1W x321 (fun v => eqP v x322)) (andP (trueP) (andP (loadNW 5 x255 (fun v => eqP v x318)) (trueP))))) (CP Tryz.prog Fn.book_Within [x324, (Value.int .i64 0), (Value.int .i64 4)] (fun x326 => andP (andP (trueP) (andP (load1W x321 (fun v => eqP v x322)) (andP (loadNW 5 x255 (fun v => eqP v x318)) (trueP)))) (binIntW .quo x326 (Value.int .i64 3) (fun x327 => convW .u64 x327 (fun x328 => binIntW .sub x322 x328 (fun x329 => storeW 5 x2 x318 (fun _ => andP (andP (load1W x321 (fun v => eqP v x322)) (andP (trueP) (trueP))) (loadNW 5 x2 (fun x331 => K (Value.tuple #[x331, x265, x294, x325, x329])))))))))))))))))))))))))))))))))))))) (fun j4 => condP x264 (addW 6 x1 (fun x332 => load1W x332 (fun x333 => binIntW .rem x333 (Value.int .u64 3) (fun x334 => binIntW .sub (Value.int .u64 4611686018427387903) x334 (fun x335 => addW 4 x255 (fun x336 => storeW 1 x336 x335 (fun _ => j4))))))) (j4))))))))))))))))))))))))))))

/-- commit_New -/
def S_commit_New (a0 a1 a2 a3 a4 a5 a6 : Value) (K : KV) : World → Prop :=
  CP Tryz.prog Fn.patience_New [a0, a1] (fun x1 => CP Tryz.prog Fn.slices_Clone_api_Seen_api_Seen [a3] (fun x2 => CP Tryz.prog Fn.slices_Clone_api_Cell_api_Cell [a4] (fun x3 => CP Tryz.prog Fn.writes_Stripes [a4, a5, a6] (fun x4 => buildW [(Value.int .i64 0), (Value.int .i64 0), (Value.int .i64 0), (Value.int .i64 0), (Value.int .i64 0), (Value.int .i64 0), (Value.int .u64 0), (Value.slice none 0 0), (Value.slice none 0 0), (Value.slice none 0 0), (Value.slice none 0 0), (Value.int .i64 0), (Value.int .i64 0), (Value.int .u64 0), (Value.bool false), (Value.int .i64 0), (Value.int .u64 0), (Value.bool false), (Value.int .i64 0), (Value.int .i64 0), (Value.int .i64 0)] [(0, 5, x1), (5, 1, a0), (6, 1, a2), (7, 1, x2), (8, 1, x3), (9, 1, x4)] (fun x5 => boxW x5 (fun x6 => CP Tryz.prog Fn.commit_Commit_more [x6] (fun x7 => K x6)))))))

/-- ref23_NewCommit -/
def S_ref23_NewCommit (a0 a1 a2 a3 a4 a5 a6 : Value) (K : KV) : World → Prop :=
  CP Tryz.prog Fn.ref23_begin [a0, a1] (fun x1 => appendW 2 16 (Value.slice none 0 0) a3 (fun x2 => appendW 2 16 (Value.slice none 0 0) a4 (fun x3 => buildW [(Value.int .i64 0), (Value.int .i64 0), (Value.int .i64 0), (Value.int .i64 0), (Value.int .i64 0), (Value.int .u64 0), (Value.slice none 0 0), (Value.slice none 0 0), (Value.slice none 0 0), (Value.slice none 0 0), (Value.int .u64 0), (Value.bool false), (Value.int .i64 0), (Value.int .i64 0), (Value.int .i64 0), (Value.int .u64 0), (Value.int .i64 0), (Value.int .i64 0), (Value.int .i64 0)] [(0, 5, x1), (5, 1, a2), (6, 1, x2), (7, 1, x3)] (fun x4 => boxW x4 (fun x5 => nilW x5 (fun x6 => addW 7 x6 (fun x7 => load1W x7 (fun x8 => CP Tryz.prog Fn.ref7_Stripes [x8, a5, a6] (fun x9 => nilW x5 (fun x10 => addW 8 x10 (fun x11 => storeW 1 x11 x9 (fun _ => nilW x5 (fun x13 => addW 8 x13 (fun x14 => load1W x14 (fun x15 => lenW x15 (fun x16 => binIntW .eql x16 (Value.int .i64 0) (fun x17 => joinW0 (K x5) (fun j1 => condP x17 (nilW x5 (fun x18 => addW 13 x18 (fun x19 => storeW 1 x19 (Value.int .i64 2) (fun _ => j1)))) (j1)))))))))))))))))))

/-- commit_Commit_Next -/
def S_commit_Commit_Next (a0 : Value) (K : KV) : World → Prop :=
  newW #[(Value.int .i64 0), (Value.int .i64 0), (Value.int .u64 0), (Value.int .u64 0), (Value.int .u64 0), (Value.bool false), (Value.int .i64 0), (Value.int .u64 0), (Value.bool false), (Value.int .i64 0)] (fun x1 => nilW a0 (fun x2 => addW 0 x2 (fun x3 => CP Tryz.prog Fn.patience_Patience_End [x3] (fun x4 => binIntW .neq x4 (Value.int .i64 0) (fun x5 => condP x5 (buildW [(Value.int .i64 0), (Value.int .i64 0), (Value.int .u64 0), (Value.int .u64 0), (Value.int .u64 0), (Value.bool false), (Value.int .i64 0), (Value.int .u64 0), (Value.bool false), (Value.int .i64 0)] [] (fun x6 => storeW 10 x1 x6 (fun _ => loadNW 10 x1 (fun x8 => K (Value.tuple #[x8, (Value.bool false)]))))) (nilW a0 (fun x9 => addW 11 x9 (fun x10 => load1W x10 (fun x11 => binIntW .eql x11 (Value.int .i64 0) (fun x12 => condP x12 (drewW (nilW a0 (fun x13 => addW 9 x13 (fun x14 => load1W x14 (fun x15 => nilW a0 (fun x16 => addW 10 x16 (fun x17 => load1W x17 (fun x18 => lenW x18 (fun x19 => idxW 1 x15 x19 (fun x20 => load1W x20 (fun x21 => buildW [(Value.int .i64 0), (Value.int .i64 0), (Value.int .u64 0), (Value.int .u64 0), (Value.int .u64 0), (Value.bool false), (Value.int .i64 0), (Value.int .u64 0), (Value.bool false), (Value.int .i64 0)] [(0, 1, (Value.int .i64 3)), (1, 1, x21)] (fun x22 => storeW 10 x1 x22 (fun _ => andP (andP (trueP) (andP (trueP) (andP (trueP) (trueP)))) (loadNW 10 x1 (fun x24 => K (Value.tuple #[x24, (Value.bool true)])))))))))))))))) (binIntW .eql x11 (Value.int .i64 1) (fun x25 => condP x25 (drewW (nilW a0 (fun x26 => addW 13 x26 (fun x27 => addW 0 x27 (fun x28 => load1W x28 (fun x29 => nilW a0 (fun x30 => addW 5 x30 (fun x31 => load1W x31 (fun x32 => buildW [(Value.int .u64 0), (Value.bool false), (Value.int .i64 0)] [(0, 1, x29), (1, 1, (Value.bool true)), (2, 1, x32)] (fun x33 => newW #[(Value.int .u64 0), (Value.bool false), (Value.int .i64 0)] (fun x34 => andP (andP (load1W x31 (fun v => eqP v x32)) (andP (load1W x28 (fun v => eqP v x29)) (trueP))) (storeW 3 x34 x33 (fun _ => andP (andP (trueP) (andP (trueP) (trueP))) (drewW (nilW a0 (fun x36 => addW 9 x36 (fun x37 => load1W x37 (fun x38 => nilW a0 (fun x39 => addW 10 x39 (fun x40 => load1W x40 (fun x41 => lenW x41 (fun x42 => idxW 1 x38 x42 (fun x43 => load1W x43 (fun x44 => nilW a0 (fun x45 => addW 13 x45 (fun x46 => loadNW 3 x46 (fun x47 => loadNW 3 x34 (fun x48 => buildW [(Value.int .i64 0), (Value.int .i64 0), (Value.int .u64 0), (Value.int .u64 0), (Value.int .u64 0), (Value.bool false), (Value.int .i64 0), (Value.int .u64 0), (Value.bool false), (Value.int .i64 0)] [(0, 1, (Value.int .i64 4)), (1, 1, x44), (4, 3, x47), (7, 3, x48)] (fun x49 => storeW 10 x1 x49 (fun _ => andP (andP (trueP) (andP (trueP) (andP (trueP) (andP (trueP) (andP (trueP) (trueP)))))) (loadNW 10 x1 (fun x51 => K (Value.tuple #[x51, (Value.bool true)]))))))))))))))))))))))))))))))))) (binIntW .eql x11 (Value.int .i64 2) (fun x52 => condP x52 (buildW [(Value.int .i64 0), (Value.int .i64 0), (Value.int .u64 0), (Value.int .u64 0), (Value.int .u64 0), (Value.bool false), (Value.int .i64 0), (Value.int .u64 0), (Value.bool false), (Value.int .i64 0)] [(0, 1, (Value.int .i64 6))] (fun x53 => storeW 10 x1 x53 (fun _ => loadNW 10 x1 (fun x55 => K (Value.tuple #[x55, (Value.bool true)]))))) (binIntW .eql x11 (Value.int .i64 3) (fun x56 => condP x56 (drewW (nilW a0 (fun x57 => addW 16 x57 (fun x58 => load1W x58 (fun x59 => nilW a0 (fun x60 => addW 16 x60 (fun x61 => load1W x61 (fun x62 => binIntW .add x62 (Value.int .u64 1) (fun x63 => buildW [(Value.int .i64 0), (Value.int .i64 0), (Value.int .u64 0), (Value.int .u64 0), (Value.int .u64 0), (Value.bool false), (Value.int .i64 0), (Value.int .u64 0), (Value.bool false), (Value.int .i64 0)] [(0, 1, (Value.int .i64 7)), (2, 1, x59), (3, 1, x63)] (fun x64 => storeW 10 x1 x64 (fun _ => andP (andP (trueP) (andP (trueP) (trueP))) (loadNW 10 x1 (fun x66 => K (Value.tuple #[x66, (Value.bool true)])))))))))))))) (binIntW .eql x11 (Value.int .i64 4) (fun x67 => condP x67 (drewW (nilW a0 (fun x68 => addW 7 x68 (fun x69 => load1W x69 (fun x70 => nilW a0 (fun x71 => addW 12 x71 (fun x72 => load1W x72 (fun x73 => idxW 2 x70 x73 (fun x74 => addW 0 x74 (fun x75 => load1W x75 (fun x76 => buildW [(Value.int .i64 0), (Value.int .i64 0), (Value.int .u64 0), (Value.int .u64 0), (Value.int .u64 0), (Value.bool false), (Value.int .i64 0), (Value.int .u64 0), (Value.bool false), (Value.int .i64 0)] [(0, 1, (Value.int .i64 3)), (1, 1, x76)] (fun x77 => storeW 10 x1 x77 (fun _ => andP (andP (trueP) (andP (trueP) (andP (trueP) (trueP)))) (loadNW 10 x1 (fun x79 => K (Value.tuple #[x79, (Value.bool true)])))))))))))))))) (binIntW .eql x11 (Value.int .i64 5) (fun x80 => condP x80 (drewW (nilW a0 (fun x81 => addW 8 x81 (fun x82 => load1W x82 (fun x83 => nilW a0 (fun x84 => addW 12 x84 (fun x85 => load1W x85 (fun x86 => idxW 2 x83 x86 (fun x87 => addW 0 x87 (fun x88 => load1W x88 (fun x89 => nilW a0 (fun x90 => addW 8 x90 (fun x91 => load1W x91 (fun x92 => nilW a0 (fun x93 => addW 12 x93 (fun x94 => load1W x94 (fun x95 => idxW 2 x92 x95 (fun x96 => addW 1 x96 (fun x97 => load1W x97 (fun x98 => buildW [(Value.int .i64 0), (Value.int .i64 0), (Value.int .u64 0), (Value.int .u64 0), (Value.int .u64 0), (Value.bool false), (Value.int .i64 0), (Value.int .u64 0), (Value.bool false), (Value.int .i64 0)] [(0, 1, (Value.int .i64 2)), (1, 1, x89), (3, 1, x98)] (fun x99 => storeW 10 x1 x99 (fun _ => andP (andP (trueP) (andP (trueP) (andP (trueP) (andP (trueP) (andP (trueP) (andP (trueP) (trueP))))))) (loadNW 10 x1 (fun x101 => K (Value.tuple #[x101, (Value.bool true)]))))))))))))))))))))))))) (binIntW .eql x11 (Value.int .i64 6) (fun x102 => condP x102 (drewW (nilW a0 (fun x103 => addW 9 x103 (fun x104 => load1W x104 (fun x105 => nilW a0 (fun x106 => addW 12 x106 (fun x107 => load1W x107 (fun x108 => idxW 1 x105 x108 (fun x109 => load1W x109 (fun x110 => nilW a0 (fun x111 => addW 16 x111 (fun x112 => load1W x112 (fun x113 => binIntW .add x113 (Value.int .u64 1) (fun x114 => buildW [(Value.int .u64 0), (Value.bool false), (Value.int .i64 0)] [(0, 1, x114)] (fun x115 => buildW [(Value.int .i64 0), (Value.int .i64 0), (Value.int .u64 0), (Value.int .u64 0), (Value.int .u64 0), (Value.bool false), (Value.int .i64 0), (Value.int .u64 0), (Value.bool false), (Value.int .i64 0)] [(0, 1, (Value.int .i64 5)), (1, 1, x110), (7, 3, x115)] (fun x116 => storeW 10 x1 x116 (fun _ => andP (andP (trueP) (andP (trueP) (andP (trueP) (andP (trueP) (trueP))))) (loadNW 10 x1 (fun x118 => K (Value.tuple #[x118, (Value.bool true)])))))))))))))))))))) (drewW (nilW a0 (fun x119 => addW 9 x119 (fun x120 => load1W x120 (fun x121 => nilW a0 (fun x122 => addW 12 x122 (fun x123 => load1W x123 (fun x124 => idxW 1 x121 x124 (fun x125 => load1W x125 (fun x126 => nilW a0 (fun x127 => addW 10 x127 (fun x128 => load1W x128 (fun x129 => nilW a0 (fun x130 => addW 12 x130 (fun x131 => load1W x131 (fun x132 => idxW 3 x129 x132 (fun x133 => loadNW 3 x133 (fun x134 => buildW [(Value.int .i64 0), (Value.int .i64 0), (Value.int .u64 0), (Value.int .u64 0), (Value.int .u64 0), (Value.bool false), (Value.int .i64 0), (Value.int .u64 0), (Value.bool false), (Value.int .i64 0)] [(0, 1, (Value.int .i64 5)), (1, 1, x126), (7, 3, x134)] (fun x135 => storeW 10 x1 x135 (fun _ => andP (andP (trueP) (andP (trueP) (andP (trueP) (andP (trueP) (andP (trueP) (andP (trueP) (trueP))))))) (loadNW 10 x1 (fun x137 => K (Value.tuple #[x137, (Value.bool true)])))))))))))))))))))))))))))))))))))))))))))))

/-- ref23_Commit_Next -/
def S_ref23_Commit_Next (a0 : Value) (K : KV) : World → Prop :=
  newW #[(Value.int .i64 0), (Value.int .i64 0), (Value.int .u64 0), (Value.int .u64 0), (Value.int .u64 0), (Value.bool false), (Value.int .i64 0), (Value.int .u64 0), (Value.bool false), (Value.int .i64 0)] (fun x1 => nilW a0 (fun x2 => addW 13 x2 (fun x3 => load1W x3 (fun x4 => binIntW .eql x4 (Value.int .i64 0) (fun x5 => condP x5 (drewW (nilW a0 (fun x6 => addW 8 x6 (fun x7 => load1W x7 (fun x8 => nilW a0 (fun x9 => addW 14 x9 (fun x10 => load1W x10 (fun x11 => idxW 1 x8 x11 (fun x12 => load1W x12 (fun x13 => buildW [(Value.int .i64 0), (Value.int .i64 0), (Value.int .u64 0), (Value.int .u64 0), (Value.int .u64 0), (Value.bool false), (Value.int .i64 0), (Value.int .u64 0), (Value.bool false), (Value.int .i64 0)] [(0, 1, (Value.int .i64 3)), (1, 1, x13)] (fun x14 => storeW 10 x1 x14 (fun _ => andP (andP (trueP) (andP (trueP) (andP (trueP) (trueP)))) (loadNW 10 x1 (fun x16 => K x16)))))))))))))) (binIntW .eql x4 (Value.int .i64 1) (fun x17 => condP x17 (drewW (nilW a0 (fun x18 => addW 8 x18 (fun x19 => load1W x19 (fun x20 => nilW a0 (fun x21 => addW 14 x21 (fun x22 => load1W x22 (fun x23 => idxW 1 x20 x23 (fun x24 => load1W x24 (fun x25 => nilW a0 (fun x26 => addW 10 x26 (fun x27 => loadNW 3 x27 (fun x28 => nilW a0 (fun x29 => addW 10 x29 (fun x30 => addW 0 x30 (fun x31 => load1W x31 (fun x32 => nilW a0 (fun x33 => addW 0 x33 (fun x34 => addW 0 x34 (fun x35 => load1W x35 (fun x36 => buildW [(Value.int .u64 0), (Value.bool false), (Value.int .i64 0)] [(0, 1, x32), (1, 1, (Value.bool true)), (2, 1, x36)] (fun x37 => buildW [(Value.int .i64 0), (Value.int .i64 0), (Value.int .u64 0), (Value.int .u64 0), (Value.int .u64 0), (Value.bool false), (Value.int .i64 0), (Value.int .u64 0), (Value.bool false), (Value.int .i64 0)] [(0, 1, (Value.int .i64 4)), (1, 1, x25), (4, 3, x28), (7, 3, x37)] (fun x38 => storeW 10 x1 x38 (fun _ => andP (andP (trueP) (andP (trueP) (andP (trueP) (andP (trueP) (andP (trueP) (andP (trueP) (trueP))))))) (loadNW 10 x1 (fun x40 => K x40)))))))))))))))))))))))))) (binIntW .eql x4 (Value.int .i64 2) (fun x41 => condP x41 (buildW [(Value.int .i64 0), (Value.int .i64 0), (Value.int .u64 0), (Value.int .u64 0), (Value.int .u64 0), (Value.bool false), (Value.int .i64 0), (Value.int .u64 0), (Value.bool false), (Value.int .i64 0)] [(0, 1, (Value.int .i64 6))] (fun x42 => storeW 10 x1 x42 (fun _ => loadNW 10 x1 (fun x44 => K x44)))) (binIntW .eql x4 (Value.int .i64 3) (fun x45 => condP x45 (drewW (nilW a0 (fun x46 => addW 15 x46 (fun x47 => load1W x47 (fun x48 => nilW a0 (fun x49 => addW 15 x49 (fun x50 => load1W x50 (fun x51 => binIntW .add x51 (Value.int .u64 1) (fun x52 => buildW [(Value.int .i64 0), (Value.int .i64 0), (Value.int .u64 0), (Value.int .u64 0), (Value.int .u64 0), (Value.bool false), (Value.int .i64 0), (Value.int .u64 0), (Value.bool false), (Value.int .i64 0)] [(0, 1, (Value.int .i64 7)), (2, 1, x48), (3, 1, x52)] (fun x53 => storeW 10 x1 x53 (fun _ => andP (andP (trueP) (andP (trueP) (trueP))) (loadNW 10 x1 (fun x55 => K x55))))))))))))) (binIntW .eql x4 (Value.int .i64 4) (fun x56 => condP x56 (drewW (nilW a0 (fun x57 => addW 6 x57 (fun x58 => load1W x58 (fun x59 => nilW a0 (fun x60 => addW 14 x60 (fun x61 => load1W x61 (fun x62 => idxW 2 x59 x62 (fun x63 => addW 0 x63 (fun x64 => load1W x64 (fun x65 => buildW [(Value.int .i64 0), (Value.int .i64 0), (Value.int .u64 0), (Value.int .u64 0), (Value.int .u64 0), (Value.bool false), (Value.int .i64 0), (Value.int .u64 0), (Value.bool false), (Value.int .i64 0)] [(0, 1, (Value.int .i64 3)), (1, 1, x65)] (fun x66 => storeW 10 x1 x66 (fun _ => andP (andP (trueP) (andP (trueP) (andP (trueP) (trueP)))) (loadNW 10 x1 (fun x68 => K x68))))))))))))))) (binIntW .eql x4 (Value.int .i64 5) (fun x69 => condP x69 (drewW (nilW a0 (fun x70 => addW 7 x70 (fun x71 => load1W x71 (fun x72 => nilW a0 (fun x73 => addW 14 x73 (fun x74 => load1W x74 (fun x75 => idxW 2 x72 x75 (fun x76 => addW 0 x76 (fun x77 => load1W x77 (fun x78 => nilW a0 (fun x79 => addW 7 x79 (fun x80 => load1W x80 (fun x81 => nilW a0 (fun x82 => addW 14 x82 (fun x83 => load1W x83 (fun x84 => idxW 2 x81 x84 (fun x85 => addW 1 x85 (fun x86 => load1W x86 (fun x87 => buildW [(Value.int .i64 0), (Value.int .i64 0), (Value.int .u64 0), (Value.int .u64 0), (Value.int .u64 0), (Value.bool false), (Value.int .i64 0), (Value.int .u64 0), (Value.bool false), (Value.int .i64 0)] [(0, 1, (Value.int .i64 2)), (1, 1, x78), (3, 1, x87)] (fun x88 => storeW 10 x1 x88 (fun _ => andP (andP (trueP) (andP (trueP) (andP (trueP) (andP (trueP) (andP (trueP) (andP (trueP) (trueP))))))) (loadNW 10 x1 (fun x90 => K x90)))))))))))))))))))))))) (binIntW .eql x4 (Value.int .i64 6) (fun x91 => condP x91 (drewW (nilW a0 (fun x92 => addW 8 x92 (fun x93 => load1W x93 (fun x94 => nilW a0 (fun x95 => addW 14 x95 (fun x96 => load1W x96 (fun x97 => idxW 1 x94 x97 (fun x98 => load1W x98 (fun x99 => nilW a0 (fun x100 => addW 15 x100 (fun x101 => load1W x101 (fun x102 => binIntW .add x102 (Value.int .u64 1) (fun x103 => buildW [(Value.int .u64 0), (Value.bool false), (Value.int .i64 0)] [(0, 1, x103)] (fun x104 => buildW [(Value.int .i64 0), (Value.int .i64 0), (Value.int .u64 0), (Value.int .u64 0), (Value.int .u64 0), (Value.bool false), (Value.int .i64 0), (Value.int .u64 0), (Value.bool false), (Value.int .i64 0)] [(0, 1, (Value.int .i64 5)), (1, 1, x99), (7, 3, x104)] (fun x105 => storeW 10 x1 x105 (fun _ => andP (andP (trueP) (andP (trueP) (andP (trueP) (andP (trueP) (trueP))))) (loadNW 10 x1 (fun x107 => K x107))))))))))))))))))) (drewW (nilW a0 (fun x108 => addW 8 x108 (fun x109 => load1W x109 (fun x110 => nilW a0 (fun x111 => addW 14 x111 (fun x112 => load1W x112 (fun x113 => idxW 1 x110 x113 (fun x114 => load1W x114 (fun x115 => nilW a0 (fun x116 => addW 9 x116 (fun x117 => load1W x117 (fun x118 => nilW a0 (fun x119 => addW 14 x119 (fun x120 => load1W x120 (fun x121 => idxW 3 x118 x121 (fun x122 => loadNW 3 x122 (fun x123 => buildW [(Value.int .i64 0), (Value.int .i64 0), (Value.int .u64 0), (Value.int .u64 0), (Value.int .u64 0), (Value.bool false), (Value.int .i64 0), (Value.int .u64 0), (Value.bool false), (Value.int .i64 0)] [(0, 1, (Value.int .i64 5)), (1, 1, x115), (7, 3, x123)] (fun x124 => storeW 10 x1 x124 (fun _ => andP (andP (trueP) (andP (trueP) (andP (trueP) (andP (trueP) (andP (trueP) (andP (trueP) (trueP))))))) (loadNW 10 x1 (fun x126 => K x126)))))))))))))))))))))))))))))))))))))))

/-- commit_Commit_End -/
def S_commit_Commit_End (a0 : Value) (K : KV) : World → Prop :=
  nilW a0 (fun x1 => addW 0 x1 (fun x2 => CP Tryz.prog Fn.patience_Patience_End [x2] (fun x3 => K x3)))

/-- commit_Commit_Err -/
def S_commit_Commit_Err (a0 : Value) (K : KV) : World → Prop :=
  nilW a0 (fun x1 => addW 0 x1 (fun x2 => CP Tryz.prog Fn.patience_Patience_Err [x2] (fun x3 => K x3)))

/-- commit_Commit_By -/
def S_commit_Commit_By (a0 : Value) (K : KV) : World → Prop :=
  nilW a0 (fun x1 => addW 0 x1 (fun x2 => CP Tryz.prog Fn.patience_Patience_By [x2] (fun x3 => K x3)))

/-- commit_Commit_Tell -/
def S_commit_Commit_Tell (a0 a1 : Value) (K : KV) : World → Prop :=
  boxW a1 (fun x1 => drewW (nilW a0 (fun x2 => addW 0 x2 (fun x3 => loadNW 6 x1 (fun x4 => CP Tryz.prog Fn.patience_Patience_Stopped [x3, x4] (fun x5 => andP (andP (trueP) (trueP)) (condP x5 (K (Value.tuple #[])) (nilW a0 (fun x6 => addW 11 x6 (fun x7 => load1W x7 (fun x8 => binIntW .eql x8 (Value.int .i64 0) (fun x9 => joinW1 (fun x10 => joinW0 (K (Value.tuple #[])) (fun j2 => condP x10 (loadNW 6 x1 (fun x11 => CP Tryz.prog Fn.commit_Commit_take [a0, x11] (fun x12 => j2))) (binIntW .eql x8 (Value.int .i64 2) (fun x13 => joinW1 (fun x14 => joinW0 (j2) (fun j4 => condP x14 (loadNW 6 x1 (fun x15 => CP Tryz.prog Fn.commit_Commit_raise [a0, x15] (fun x16 => j4))) (binIntW .eql x8 (Value.int .i64 4) (fun x17 => joinW0 (j4) (fun j5 => condP x17 (addW 1 x1 (fun x18 => loadNW 3 x18 (fun x19 => CP Tryz.prog Fn.commit_Commit_proved [a0, x19] (fun x20 => j5)))) (binIntW .eql x8 (Value.int .i64 5) (fun x21 => joinW0 (j5) (fun j6 => condP x21 (nilW a0 (fun x22 => addW 12 x22 (fun x23 => load1W x23 (fun x24 => binIntW .add x24 (Value.int .i64 1) (fun x25 => nilW a0 (fun x26 => addW 12 x26 (fun x27 => storeW 1 x27 x25 (fun _ => CP Tryz.prog Fn.commit_Commit_write [a0] (fun x29 => j6))))))))) (binIntW .eql x8 (Value.int .i64 6) (fun x30 => joinW0 (j6) (fun j7 => condP x30 (nilW a0 (fun x31 => addW 12 x31 (fun x32 => load1W x32 (fun x33 => binIntW .add x33 (Value.int .i64 1) (fun x34 => nilW a0 (fun x35 => addW 12 x35 (fun x36 => storeW 1 x36 x34 (fun _ => CP Tryz.prog Fn.commit_Commit_give [a0] (fun x38 => j7))))))))) (binIntW .eql x8 (Value.int .i64 7) (fun x39 => joinW0 (j7) (fun j8 => condP x39 (nilW a0 (fun x40 => addW 12 x40 (fun x41 => load1W x41 (fun x42 => binIntW .add x42 (Value.int .i64 1) (fun x43 => nilW a0 (fun x44 => addW 12 x44 (fun x45 => storeW 1 x45 x43 (fun _ => CP Tryz.prog Fn.commit_Commit_leave [a0] (fun x47 => j8))))))))) (j8))))))))))))))) (fun j3 => condP x13 (j3 x13) (binIntW .eql x8 (Value.int .i64 3) (fun x48 => j3 x48))))))) (fun j1 => condP x9 (j1 x9) (binIntW .eql x8 (Value.int .i64 1) (fun x49 => j1 x49)))))))))))))))

/-- ref23_Commit_Tell -/
def S_ref23_Commit_Tell (a0 a1 : Value) (K : KV) : World → Prop :=
  boxW a1 (fun x1 => drewW (nilW a0 (fun x2 => addW 0 x2 (fun x3 => addW 2 x3 (fun x4 => load1W x4 (fun x5 => binIntW .neq x5 (Value.int .i64 0) (fun x6 => gW x6 false (fun K => K a0) (fun x7 => gW x6 false (fun K => nilW x7 K) (fun x8 => gW x6 false (fun K => addW 0 x8 K) (fun x9 => gW x6 false (fun K => loadNW 6 x1 K) (fun x10 => gW x6 false (fun K => CP Tryz.prog Fn.ref23_Step_failed [x9, x10] K) (fun x11 => andP (andP (trueP) (andP (trueP) (trueP))) (pickW x6 (Value.bool true) x11 (fun x12 => condP x12 (K (Value.tuple #[])) (nilW a0 (fun x13 => addW 13 x13 (fun x14 => load1W x14 (fun x15 => binIntW .eql x15 (Value.int .i64 0) (fun x16 => joinW1 (fun x17 => joinW0 (K (Value.tuple #[])) (fun j2 => condP x17 (loadNW 6 x1 (fun x18 => CP Tryz.prog Fn.ref23_Commit_locks [a0, x18] (fun x19 => j2))) (binIntW .eql x15 (Value.int .i64 2) (fun x20 => joinW0 (j2) (fun j3 => condP x20 (addW 0 x1 (fun x21 => load1W x21 (fun x22 => nilW a0 (fun x23 => addW 15 x23 (fun x24 => storeW 1 x24 x22 (fun _ => nilW a0 (fun x26 => addW 13 x26 (fun x27 => storeW 1 x27 (Value.int .i64 3) (fun _ => nilW a0 (fun x29 => addW 15 x29 (fun x30 => load1W x30 (fun x31 => binIntW .geq x31 (Value.int .u64 4611686018427387903) (fun x32 => joinW0 (j3) (fun j4 => condP x32 (CP Tryz.prog Fn.ref23_Commit_out [a0, (Value.int .i64 4), (Value.int .i64 7), (Value.int .i64 (-1))] (fun x33 => j4)) (j4))))))))))))))) (binIntW .eql x15 (Value.int .i64 3) (fun x34 => joinW0 (j3) (fun j5 => condP x34 (addW 4 x1 (fun x35 => load1W x35 (fun x36 => notW x36 (fun x37 => condP x37 (nilW a0 (fun x38 => addW 13 x38 (fun x39 => storeW 1 x39 (Value.int .i64 2) (fun _ => K (Value.tuple #[]))))) (nilW a0 (fun x41 => addW 13 x41 (fun x42 => storeW 1 x42 (Value.int .i64 4) (fun _ => nilW a0 (fun x44 => addW 14 x44 (fun x45 => storeW 1 x45 (Value.int .i64 0) (fun _ => drewW (nilW a0 (fun x47 => addW 15 x47 (fun x48 => load1W x48 (fun x49 => nilW a0 (fun x50 => addW 5 x50 (fun x51 => load1W x51 (fun x52 => binIntW .eql x49 x52 (fun x53 => condP x53 (CP Tryz.prog Fn.ref23_Commit_write [a0] (fun x54 => K (Value.tuple #[]))) (CP Tryz.prog Fn.ref23_Commit_look [a0] (fun x55 => j5))))))))))))))))))))) (binIntW .eql x15 (Value.int .i64 5) (fun x56 => joinW0 (j5) (fun j6 => condP x56 (nilW a0 (fun x57 => addW 14 x57 (fun x58 => load1W x58 (fun x59 => binIntW .add x59 (Value.int .i64 1) (fun x60 => nilW a0 (fun x61 => addW 14 x61 (fun x62 => storeW 1 x62 x60 (fun _ => drewW (nilW a0 (fun x64 => addW 14 x64 (fun x65 => load1W x65 (fun x66 => nilW a0 (fun x67 => addW 7 x67 (fun x68 => load1W x68 (fun x69 => lenW x69 (fun x70 => binIntW .eql x66 x70 (fun x71 => joinW0 (j6) (fun j7 => condP x71 (CP Tryz.prog Fn.ref23_Commit_free [a0] (fun x72 => j7)) (j7))))))))))))))))))) (binIntW .eql x15 (Value.int .i64 6) (fun x73 => joinW0 (j6) (fun j8 => condP x73 (nilW a0 (fun x74 => addW 14 x74 (fun x75 => load1W x75 (fun x76 => binIntW .add x76 (Value.int .i64 1) (fun x77 => nilW a0 (fun x78 => addW 14 x78 (fun x79 => storeW 1 x79 x77 (fun _ => drewW (nilW a0 (fun x81 => addW 14 x81 (fun x82 => load1W x82 (fun x83 => nilW a0 (fun x84 => addW 8 x84 (fun x85 => load1W x85 (fun x86 => lenW x86 (fun x87 => binIntW .eql x83 x87 (fun x88 => joinW0 (j8) (fun j9 => condP x88 (nilW a0 (fun x89 => addW 0 x89 (fun x90 => addW 2 x90 (fun x91 => storeW 1 x91 (Value.int .i64 2) (fun _ => j9))))) (j9))))))))))))))))))) (nilW a0 (fun x93 => addW 14 x93 (fun x94 => load1W x94 (fun x95 => binIntW .add x95 (Value.int .i64 1) (fun x96 => nilW a0 (fun x97 => addW 14 x97 (fun x98 => storeW 1 x98 x96 (fun _ => drewW (nilW a0 (fun x100 => addW 14 x100 (fun x101 => load1W x101 (fun x102 => nilW a0 (fun x103 => addW 9 x103 (fun x104 => load1W x104 (fun x105 => lenW x105 (fun x106 => binIntW .eql x102 x106 (fun x107 => joinW0 (j8) (fun j10 => condP x107 (drewW (nilW a0 (fun x108 => addW 16 x108 (fun x109 => load1W x109 (fun x110 => nilW a0 (fun x111 => addW 17 x111 (fun x112 => load1W x112 (fun x113 => nilW a0 (fun x114 => addW 18 x114 (fun x115 => load1W x115 (fun x116 => nilW a0 (fun x117 => addW 0 x117 (fun x118 => addW 2 x118 (fun x119 => storeW 1 x119 x110 (fun _ => andP (andP (trueP) (andP (trueP) (andP (trueP) (trueP)))) (nilW a0 (fun x121 => addW 0 x121 (fun x122 => addW 3 x122 (fun x123 => storeW 1 x123 x113 (fun _ => andP (trueP) (nilW a0 (fun x125 => addW 0 x125 (fun x126 => addW 4 x126 (fun x127 => storeW 1 x127 x116 (fun _ => andP (trueP) (j10)))))))))))))))))))))))))) (j10))))))))))))))))))))))))))))))))) (fun j1 => condP x16 (j1 x16) (binIntW .eql x15 (Value.int .i64 1) (fun x129 => joinW1 (fun x130 => j1 x130) (fun j11 => condP x129 (j11 x129) (binIntW .eql x15 (Value.int .i64 4) (fun x131 => j11 x131)))))))))))))))))))))))))

/-- mem_New -/
def S_mem_New (a0 : Value) (K : KV) : World → Prop :=
  boxW a0 (fun x1 => loadNW 5 x1 (fun x2 => CP Tryz.prog Fn.mem_Held [x2] (fun x3 => storeW 5 x1 x3 (fun _ => drewW (loadNW 5 x1 (fun x5 => addW 0 x1 (fun x6 => load1W x6 (fun x7 => addW 1 x1 (fun x8 => load1W x8 (fun x9 => addW 2 x1 (fun x10 => load1W x10 (fun x11 => addW 4 x1 (fun x12 => load1W x12 (fun x13 => addW 3 x1 (fun x14 => load1W x14 (fun x15 => CP Tryz.prog Fn.heap_New [x7] (fun x16 => andP (andP (load1W x14 (fun v => eqP v x15)) (andP (load1W x12 (fun v => eqP v x13)) (andP (load1W x10 (fun v => eqP v x11)) (andP (load1W x8 (fun v => eqP v x9)) (andP (trueP) (andP (loadNW 5 x1 (fun v => eqP v x5)) (trueP))))))) (CP Tryz.prog Fn.stripe_New [x9, x11] (fun x17 => andP (andP (load1W x14 (fun v => eqP v x15)) (andP (load1W x12 (fun v => eqP v x13)) (andP (trueP) (andP (trueP) (andP (loadNW 5 x1 (fun v => eqP v x5)) (trueP)))))) (CP Tryz.prog Fn.clock_New [x13] (fun x18 => andP (andP (load1W x14 (fun v => eqP v x15)) (andP (trueP) (andP (loadNW 5 x1 (fun v => eqP v x5)) (trueP)))) (CP Tryz.prog Fn.epoch_New [x15] (fun x19 => andP (andP (trueP) (andP (loadNW 5 x1 (fun v => eqP v x5)) (trueP))) (buildW [(Value.int .i64 0), (Value.int .i64 0), (Value.int .i64 0), (Value.int .i64 0), (Value.int .u64 0), (Value.pointer none), (Value.pointer none), (Value.pointer none), (Value.pointer none), (Value.int .i64 0)] [(0, 5, x5), (5, 1, x16), (6, 1, x17), (7, 1, x18), (8, 1, x19)] (fun x20 => boxW x20 (fun x21 => andP (andP (trueP) (trueP)) (K x21)))))))))))))))))))))))))))

/-- commit_Commit_Writing -/
def S_commit_Commit_Writing (a0 : Value) (K : KV) : World → Prop :=
  nilW a0 (fun x1 => addW 17 x1 (fun x2 => load1W x2 (fun x3 => gW x3 true (fun K => K a0) (fun x4 => gW x3 true (fun K => CP Tryz.prog Fn.commit_Commit_End [x4] K) (fun x5 => gW x3 true (fun K => binIntW .eql x5 (Value.int .i64 0) K) (fun x6 => pickW x3 x6 (Value.bool false) (fun x7 => K x7)))))))

/-- mem_Mem_Do -/
def S_mem_Mem_Do (a0 a1 : Value) (K : KV) : World → Prop :=
  boxW a1 (fun x1 => newW #[(Value.int .u64 0), (Value.int .u64 0), (Value.bool false), (Value.int .i64 0), (Value.bool false), (Value.int .i64 0)] (fun x2 => loadNW 10 x1 (fun x3 => CP Tryz.prog Fn.mem_Mem_do [a0, x3] (fun x4 => newW #[(Value.int .u64 0), (Value.int .u64 0), (Value.bool false), (Value.int .i64 0), (Value.bool false), (Value.int .i64 0)] (fun x5 => storeW 6 x5 x4 (fun _ => addW 5 x5 (fun x7 => load1W x7 (fun x8 => binIntW .eql x8 (Value.int .i64 0) (fun x9 => joinW0 (loadNW 6 x5 (fun x10 => storeW 6 x2 x10 (fun _ => loadNW 6 x2 (fun x12 => K x12)))) (fun j1 => condP x9 (nilW a0 (fun x13 => addW 9 x13 (fun x14 => load1W x14 (fun x15 => binIntW .add x15 (Value.int .i64 1) (fun x16 => nilW a0 (fun x17 => addW 9 x17 (fun x18 => storeW 1 x18 x16 (fun _ => j1)))))))) (j1)))))))))))

/-- mem_Mem_Locks -/
def S_mem_Mem_Locks (a0 : Value) (K : KV) : World → Prop :=
  nilW a0 (fun x1 => addW 6 x1 (fun x2 => load1W x2 (fun x3 => CP Tryz.prog Fn.stripe_Table_All [x3] (fun x4 => K x4))))

/-- mem_Mem_Words -/
def S_mem_Mem_Words (a0 : Value) (K : KV) : World → Prop :=
  nilW a0 (fun x1 => addW 5 x1 (fun x2 => load1W x2 (fun x3 => CP Tryz.prog Fn.heap_Heap_All [x3] (fun x4 => K x4))))

/-- commit_Commit_Stamp -/
def S_commit_Commit_Stamp (a0 : Value) (K : KV) : World → Prop :=
  nilW a0 (fun x1 => addW 17 x1 (fun x2 => load1W x2 (fun x3 => notW x3 (fun x4 => condP x4 (K (Value.int .u64 0)) (nilW a0 (fun x5 => addW 16 x5 (fun x6 => load1W x6 (fun x7 => binIntW .add x7 (Value.int .u64 1) (fun x8 => K x8)))))))))

/-- mem_Mem_Now -/
def S_mem_Mem_Now (a0 : Value) (K : KV) : World → Prop :=
  nilW a0 (fun x1 => addW 7 x1 (fun x2 => load1W x2 (fun x3 => CP Tryz.prog Fn.clock_Clock_Load [x3] (fun x4 => K x4))))

/-- ref1_Shape -/
def S_ref1_Shape (a0 : Value) (K : KV) : World → Prop :=
  boxW a0 (fun x1 => newW #[(Value.int .i64 0), (Value.int .i64 0), (Value.int .i64 0), (Value.int .i64 0), (Value.int .u64 0)] (fun x2 => addW 0 x1 (fun x3 => load1W x3 (fun x4 => CP Tryz.prog Fn.ref1_Held [x4, (Value.int .i64 32), (Value.int .i64 256)] (fun x5 => addW 0 x1 (fun x6 => storeW 1 x6 x5 (fun _ => addW 1 x1 (fun x8 => load1W x8 (fun x9 => CP Tryz.prog Fn.ref1_Held [x9, (Value.int .i64 1), (Value.int .i64 16)] (fun x10 => addW 1 x1 (fun x11 => storeW 1 x11 x10 (fun _ => addW 2 x1 (fun x13 => load1W x13 (fun x14 => CP Tryz.prog Fn.ref1_Held [x14, (Value.int .i64 1), (Value.int .i64 16)] (fun x15 => addW 2 x1 (fun x16 => storeW 1 x16 x15 (fun _ => addW 3 x1 (fun x18 => load1W x18 (fun x19 => CP Tryz.prog Fn.ref1_Held [x19, (Value.int .i64 1), (Value.int .i64 4)] (fun x20 => addW 3 x1 (fun x21 => storeW 1 x21 x20 (fun _ => addW 4 x1 (fun x23 => load1W x23 (fun x24 => binIntW .geq x24 (Value.int .u64 4611686018427387904) (fun x25 => joinW0 (loadNW 5 x1 (fun x26 => storeW 5 x2 x26 (fun _ => loadNW 5 x2 (fun x28 => K x28)))) (fun j1 => condP x25 (addW 4 x1 (fun x29 => storeW 1 x29 (Value.int .u64 4611686018427387903) (fun _ => j1))) (j1)))))))))))))))))))))))))))

/-- book_Within -/
def S_book_Within (a0 a1 a2 : Value) (K : KV) : World → Prop :=
  binIntW .sub a2 a1 (fun x1 => binIntW .add x1 (Value.int .i64 1) (fun x2 => binIntW .rem a0 x2 (fun x3 => binIntW .lss x3 (Value.int .i64 0) (fun x4 => joinW1 (fun x5 => binIntW .add a1 x5 (fun x6 => K x6)) (fun j1 => condP x4 (binIntW .add x3 a2 (fun x7 => binIntW .sub x7 a1 (fun x8 => binIntW .add x8 (Value.int .i64 1) (fun x9 => j1 x9)))) (j1 x3))))))

/-- patience_New -/
def S_patience_New (a0 a1 : Value) (K : KV) : World → Prop :=
  newW #[(Value.int .i64 0), (Value.int .i64 0), (Value.int .i64 0), (Value.int .i64 0), (Value.int .i64 0)] (fun x1 => minW a1 [(Value.int .i64 4)] (fun x2 => maxW (Value.int .i64 0) [x2] (fun x3 => buildW [(Value.int .i64 0), (Value.int .i64 0), (Value.int .i64 0), (Value.int .i64 0), (Value.int .i64 0)] [(0, 1, a0), (1, 1, x3), (3, 1, (Value.int .i64 (-1)))] (fun x4 => storeW 5 x1 x4 (fun _ => loadNW 5 x1 (fun x6 => K x6))))))

/-- slices_Clone_api_Seen_api_Seen -/
def S_slices_Clone_api_Seen_api_Seen (a0 : Value) (K : KV) : World → Prop :=
  eqNilSliceW .eql a0 (Value.slice none 0 0) (fun x1 => condP x1 (K (Value.slice none 0 0)) (buildSliceW [(Value.int .i64 0), (Value.int .u64 0)] 0 [] (fun x2 => appendW 2 16 x2 a0 (fun x3 => K x3))))

/-- slices_Clone_api_Cell_api_Cell -/
def S_slices_Clone_api_Cell_api_Cell (a0 : Value) (K : KV) : World → Prop :=
  eqNilSliceW .eql a0 (Value.slice none 0 0) (fun x1 => condP x1 (K (Value.slice none 0 0)) (buildSliceW [(Value.int .i64 0), (Value.int .u64 0)] 0 [] (fun x2 => appendW 2 16 x2 a0 (fun x3 => K x3))))

/-- writes_Stripes -/
def S_writes_Stripes (a0 a1 a2 : Value) (K : KV) : World → Prop :=
  lenW a0 (fun x1 => loopW2 (Value.slice none 0 0) (Value.int .i64 0) (fun J1 x2 x3 => binIntW .lss x3 x1 (fun x4 => condP x4 (idxW 2 a0 x3 (fun x5 => loadNW 2 x5 (fun x6 => newW #[(Value.int .i64 0), (Value.int .u64 0)] (fun x7 => storeW 2 x7 x6 (fun _ => addW 0 x7 (fun x9 => load1W x9 (fun x10 => CP Tryz.prog Fn.stripe_Of [x10, a1, a2] (fun x11 => binIntW .geq x11 (Value.int .i64 0) (fun x12 => joinW1 (fun x13 => binIntW .add x3 (Value.int .i64 1) (fun x14 => J1 x13 x14)) (fun j1 => condP x12 (buildSliceW [(Value.int .i64 0)] 1 [(0, 1, x11)] (fun x15 => appendW 1 8 x2 x15 (fun x16 => j1 x16))) (j1 x2))))))))))) (CP Tryz.prog Fn.slices_Sort_int_int [x2] (fun x17 => CP Tryz.prog Fn.slices_Compact_int_int [x2] (fun x18 => K x18))))))

/-- commit_Commit_more -/
def S_commit_Commit_more (a0 : Value) (K : KV) : World → Prop :=
  nilW a0 (fun x1 => addW 11 x1 (fun x2 => storeW 1 x2 (Value.int .i64 0) (fun _ => drewW (nilW a0 (fun x4 => addW 10 x4 (fun x5 => load1W x5 (fun x6 => lenW x6 (fun x7 => nilW a0 (fun x8 => addW 9 x8 (fun x9 => load1W x9 (fun x10 => lenW x10 (fun x11 => binIntW .eql x7 x11 (fun x12 => joinW0 (K (Value.tuple #[])) (fun j1 => condP x12 (nilW a0 (fun x13 => addW 11 x13 (fun x14 => storeW 1 x14 (Value.int .i64 2) (fun _ => j1)))) (j1)))))))))))))))

/-- ref23_begin -/
def S_ref23_begin (a0 a1 : Value) (K : KV) : World → Prop :=
  newW #[(Value.int .i64 0), (Value.int .i64 0), (Value.int .i64 0), (Value.int .i64 0), (Value.int .i64 0)] (fun x1 => CP Tryz.prog Fn.ref1_Held [a1, (Value.int .i64 0), (Value.int .i64 4)] (fun x2 => buildW [(Value.int .i64 0), (Value.int .i64 0), (Value.int .i64 0), (Value.int .i64 0), (Value.int .i64 0)] [(0, 1, a0), (1, 1, x2), (4, 1, (Value.int .i64 (-1)))] (fun x3 => storeW 5 x1 x3 (fun _ => loadNW 5 x1 (fun x5 => K x5)))))

/-- ref7_Stripes -/
def S_ref7_Stripes (a0 a1 a2 : Value) (K : KV) : World → Prop :=
  newW #[(Value.bool false), (Value.bool false), (Value.bool false), (Value.bool false), (Value.bool false), (Value.bool false), (Value.bool false), (Value.bool false), (Value.bool false), (Value.bool false), (Value.bool false), (Value.bool false), (Value.bool false), (Value.bool false), (Value.bool false), (Value.bool false)] (fun x1 => loopW1 (Value.int .i64 0) (fun J1 x2 => lenW a0 (fun x3 => binIntW .lss x2 x3 (fun x4 => condP x4 (idxW 2 a0 x2 (fun x5 => addW 0 x5 (fun x6 => load1W x6 (fun x7 => CP Tryz.prog Fn.ref1_Of [x7, a1, a2] (fun x8 => binIntW .geq x8 (Value.int .i64 0) (fun x9 => joinW0 (binIntW .add x2 (Value.int .i64 1) (fun x10 => J1 x10)) (fun j1 => condP x9 (idxArrW 16 1 x1 x8 (fun x11 => storeW 1 x11 (Value.bool true) (fun _ => j1))) (j1)))))))) (loopW2 (Value.slice none 0 0) (Value.int .i64 0) (fun J2 x13 x14 => binIntW .lss x14 (Value.int .i64 16) (fun x15 => condP x15 (idxArrW 16 1 x1 x14 (fun x16 => load1W x16 (fun x17 => joinW1 (fun x18 => binIntW .add x14 (Value.int .i64 1) (fun x19 => J2 x18 x19)) (fun j2 => condP x17 (buildSliceW [(Value.int .i64 0)] 1 [(0, 1, x14)] (fun x20 => appendW 1 8 x13 x20 (fun x21 => j2 x21))) (j2 x13))))) (K x13))))))))

/-- patience_Patience_End -/
def S_patience_Patience_End (a0 : Value) (K : KV) : World → Prop :=
  nilW a0 (fun x1 => addW 2 x1 (fun x2 => load1W x2 (fun x3 => K x3)))

/-- patience_Patience_Err -/
def S_patience_Patience_Err (a0 : Value) (K : KV) : World → Prop :=
  nilW a0 (fun x1 => addW 4 x1 (fun x2 => load1W x2 (fun x3 => K x3)))

/-- patience_Patience_By -/
def S_patience_Patience_By (a0 : Value) (K : KV) : World → Prop :=
  nilW a0 (fun x1 => addW 3 x1 (fun x2 => load1W x2 (fun x3 => K x3)))

/-- patience_Patience_Stopped -/
def S_patience_Patience_Stopped (a0 a1 : Value) (K : KV) : World → Prop :=
  boxW a1 (fun x1 => nilW a0 (fun x2 => addW 2 x2 (fun x3 => load1W x3 (fun x4 => binIntW .eql x4 (Value.int .i64 0) (fun x5 => gW x5 true (fun K => addW 5 x1 K) (fun x6 => gW x5 true (fun K => load1W x6 K) (fun x7 => gW x5 true (fun K => binIntW .neq x7 (Value.int .i64 0) K) (fun x8 => pickW x5 x8 (Value.bool false) (fun x9 => joinW0 (nilW a0 (fun x10 => addW 2 x10 (fun x11 => load1W x11 (fun x12 => binIntW .neq x12 (Value.int .i64 0) (fun x13 => K x13))))) (fun j1 => condP x9 (addW 5 x1 (fun x14 => load1W x14 (fun x15 => CP Tryz.prog Fn.patience_Patience_Stop [a0, (Value.int .i64 4), x15, (Value.int .i64 (-1))] (fun x16 => j1)))) (j1)))))))))))

/-- commit_Commit_take -/
def S_commit_Commit_take (a0 a1 : Value) (K : KV) : World → Prop :=
  boxW a1 (fun x1 => nilW a0 (fun x2 => addW 11 x2 (fun x3 => load1W x3 (fun x4 => binIntW .eql x4 (Value.int .i64 0) (fun x5 => gW x5 true (fun K => addW 1 x1 K) (fun x6 => gW x5 true (fun K => addW 1 x6 K) (fun x7 => gW x5 true (fun K => load1W x7 K) (fun x8 => pickW x5 x8 (Value.bool false) (fun x9 => joinW0 (K (Value.tuple #[])) (fun j1 => condP x9 (addW 1 x1 (fun x10 => loadNW 3 x10 (fun x11 => CP Tryz.prog Fn.commit_Commit_held [a0, x11] (fun x12 => j1)))) (nilW a0 (fun x13 => addW 11 x13 (fun x14 => load1W x14 (fun x15 => binIntW .eql x15 (Value.int .i64 0) (fun x16 => joinW0 (j1) (fun j2 => condP x16 (addW 1 x1 (fun x17 => loadNW 3 x17 (fun x18 => nilW a0 (fun x19 => addW 13 x19 (fun x20 => storeW 3 x20 x18 (fun _ => nilW a0 (fun x22 => addW 11 x22 (fun x23 => storeW 1 x23 (Value.int .i64 1) (fun _ => j2))))))))) (addW 4 x1 (fun x25 => load1W x25 (fun x26 => joinW0 (j2) (fun j3 => condP x26 (drewW (nilW a0 (fun x27 => addW 10 x27 (fun x28 => load1W x28 (fun x29 => nilW a0 (fun x30 => addW 13 x30 (fun x31 => loadNW 3 x31 (fun x32 => buildSliceW [(Value.int .u64 0), (Value.bool false), (Value.int .i64 0)] 1 [(0, 3, x32)] (fun x33 => andP (andP (trueP) (andP (load1W x28 (fun v => eqP v x29)) (trueP))) (appendW 3 24 x29 x33 (fun x34 => andP (andP (trueP) (trueP)) (nilW a0 (fun x35 => addW 10 x35 (fun x36 => storeW 1 x36 x34 (fun _ => andP (trueP) (CP Tryz.prog Fn.commit_Commit_more [a0] (fun x38 => j3))))))))))))))))) (nilW a0 (fun x39 => addW 11 x39 (fun x40 => storeW 1 x40 (Value.int .i64 0) (fun _ => j3))))))))))))))))))))))))

/-- commit_Commit_raise -/
def S_commit_Commit_raise (a0 a1 : Value) (K : KV) : World → Prop :=
  boxW a1 (fun x1 => nilW a0 (fun x2 => addW 11 x2 (fun x3 => load1W x3 (fun x4 => binIntW .eql x4 (Value.int .i64 2) (fun x5 => gW x5 true (fun K => addW 0 x1 K) (fun x6 => gW x5 true (fun K => load1W x6 K) (fun x7 => gW x5 true (fun K => binIntW .geq x7 (Value.int .u64 4611686018427387903) K) (fun x8 => pickW x5 x8 (Value.bool false) (fun x9 => joinW0 (K (Value.tuple #[])) (fun j1 => condP x9 (CP Tryz.prog Fn.commit_Commit_stop [a0, (Value.int .i64 4), (Value.int .i64 7), (Value.int .i64 (-1))] (fun x10 => j1)) (nilW a0 (fun x11 => addW 11 x11 (fun x12 => load1W x12 (fun x13 => binIntW .eql x13 (Value.int .i64 2) (fun x14 => joinW0 (j1) (fun j2 => condP x14 (addW 0 x1 (fun x15 => load1W x15 (fun x16 => nilW a0 (fun x17 => addW 16 x17 (fun x18 => storeW 1 x18 x16 (fun _ => nilW a0 (fun x20 => addW 11 x20 (fun x21 => storeW 1 x21 (Value.int .i64 3) (fun _ => j2))))))))) (addW 4 x1 (fun x23 => load1W x23 (fun x24 => notW x24 (fun x25 => joinW0 (j2) (fun j3 => condP x25 (nilW a0 (fun x26 => addW 11 x26 (fun x27 => storeW 1 x27 (Value.int .i64 2) (fun _ => j3)))) (drewW (nilW a0 (fun x29 => addW 16 x29 (fun x30 => load1W x30 (fun x31 => nilW a0 (fun x32 => addW 6 x32 (fun x33 => load1W x33 (fun x34 => binIntW .eql x31 x34 (fun x35 => joinW0 (j3) (fun j4 => condP x35 (CP Tryz.prog Fn.commit_Commit_begin [a0] (fun x36 => j4)) (CP Tryz.prog Fn.commit_Commit_prove [a0] (fun x37 => j4)))))))))))))))))))))))))))))))))

/-- commit_Commit_proved -/
def S_commit_Commit_proved (a0 a1 : Value) (K : KV) : World → Prop :=
  boxW a1 (fun x1 => addW 1 x1 (fun x2 => load1W x2 (fun x3 => joinW0 (K (Value.tuple #[])) (fun j1 => condP x3 (loadNW 3 x1 (fun x4 => CP Tryz.prog Fn.commit_Commit_held [a0, x4] (fun x5 => j1))) (drewW (addW 0 x1 (fun x6 => load1W x6 (fun x7 => nilW a0 (fun x8 => addW 7 x8 (fun x9 => load1W x9 (fun x10 => nilW a0 (fun x11 => addW 12 x11 (fun x12 => load1W x12 (fun x13 => idxW 2 x10 x13 (fun x14 => addW 1 x14 (fun x15 => load1W x15 (fun x16 => binIntW .neq x7 x16 (fun x17 => joinW0 (j1) (fun j2 => condP x17 (CP Tryz.prog Fn.commit_Commit_stop [a0, (Value.int .i64 5), (Value.int .i64 0), (Value.int .i64 (-1))] (fun x18 => j2)) (nilW a0 (fun x19 => addW 12 x19 (fun x20 => load1W x20 (fun x21 => binIntW .add x21 (Value.int .i64 1) (fun x22 => nilW a0 (fun x23 => addW 12 x23 (fun x24 => storeW 1 x24 x22 (fun _ => CP Tryz.prog Fn.commit_Commit_prove [a0] (fun x26 => j2))))))))))))))))))))))))))))

/-- commit_Commit_write -/
def S_commit_Commit_write (a0 : Value) (K : KV) : World → Prop :=
  drewW (nilW a0 (fun x1 => addW 12 x1 (fun x2 => load1W x2 (fun x3 => nilW a0 (fun x4 => addW 8 x4 (fun x5 => load1W x5 (fun x6 => lenW x6 (fun x7 => binIntW .eql x3 x7 (fun x8 => joinW0 (K (Value.tuple #[])) (fun j1 => condP x8 (nilW a0 (fun x9 => addW 12 x9 (fun x10 => storeW 1 x10 (Value.int .i64 0) (fun _ => nilW a0 (fun x12 => addW 11 x12 (fun x13 => storeW 1 x13 (Value.int .i64 6) (fun _ => CP Tryz.prog Fn.commit_Commit_give [a0] (fun x15 => j1)))))))) (j1)))))))))))

/-- commit_Commit_give -/
def S_commit_Commit_give (a0 : Value) (K : KV) : World → Prop :=
  drewW (nilW a0 (fun x1 => addW 12 x1 (fun x2 => load1W x2 (fun x3 => nilW a0 (fun x4 => addW 9 x4 (fun x5 => load1W x5 (fun x6 => lenW x6 (fun x7 => binIntW .eql x3 x7 (fun x8 => joinW0 (K (Value.tuple #[])) (fun j1 => condP x8 (nilW a0 (fun x9 => addW 0 x9 (fun x10 => CP Tryz.prog Fn.patience_Patience_Stop [x10, (Value.int .i64 2), (Value.int .i64 0), (Value.int .i64 (-1))] (fun x11 => j1)))) (j1)))))))))))

/-- commit_Commit_leave -/
def S_commit_Commit_leave (a0 : Value) (K : KV) : World → Prop :=
  drewW (nilW a0 (fun x1 => addW 12 x1 (fun x2 => load1W x2 (fun x3 => nilW a0 (fun x4 => addW 10 x4 (fun x5 => load1W x5 (fun x6 => lenW x6 (fun x7 => binIntW .eql x3 x7 (fun x8 => joinW0 (K (Value.tuple #[])) (fun j1 => condP x8 (drewW (nilW a0 (fun x9 => addW 0 x9 (fun x10 => nilW a0 (fun x11 => addW 18 x11 (fun x12 => load1W x12 (fun x13 => nilW a0 (fun x14 => addW 20 x14 (fun x15 => load1W x15 (fun x16 => nilW a0 (fun x17 => addW 19 x17 (fun x18 => load1W x18 (fun x19 => CP Tryz.prog Fn.patience_Patience_Stop [x10, x13, x16, x19] (fun x20 => andP (andP (trueP) (andP (trueP) (andP (trueP) (trueP)))) (j1))))))))))))))) (j1)))))))))))

/-- ref23_Step_failed -/
def S_ref23_Step_failed (a0 a1 : Value) (K : KV) : World → Prop :=
  boxW a1 (fun x1 => addW 5 x1 (fun x2 => load1W x2 (fun x3 => binIntW .neq x3 (Value.int .i64 0) (fun x4 => joinW0 (addW 5 x1 (fun x5 => load1W x5 (fun x6 => binIntW .neq x6 (Value.int .i64 0) (fun x7 => K x7)))) (fun j1 => condP x4 (drewW (addW 5 x1 (fun x8 => load1W x8 (fun x9 => nilW a0 (fun x10 => addW 2 x10 (fun x11 => storeW 1 x11 (Value.int .i64 4) (fun _ => andP (andP (load1W x8 (fun v => eqP v x9)) (trueP)) (nilW a0 (fun x13 => addW 3 x13 (fun x14 => storeW 1 x14 x9 (fun _ => andP (andP (trueP) (trueP)) (j1)))))))))))) (j1))))))

/-- ref23_Commit_locks -/
def S_ref23_Commit_locks (a0 a1 : Value) (K : KV) : World → Prop :=
  boxW a1 (fun x1 => nilW a0 (fun x2 => addW 13 x2 (fun x3 => load1W x3 (fun x4 => binIntW .eql x4 (Value.int .i64 1) (fun x5 => condP x5 (addW 4 x1 (fun x6 => load1W x6 (fun x7 => notW x7 (fun x8 => condP x8 (nilW a0 (fun x9 => addW 13 x9 (fun x10 => storeW 1 x10 (Value.int .i64 0) (fun _ => K (Value.tuple #[]))))) (drewW (nilW a0 (fun x12 => addW 9 x12 (fun x13 => load1W x13 (fun x14 => nilW a0 (fun x15 => addW 10 x15 (fun x16 => loadNW 3 x16 (fun x17 => buildSliceW [(Value.int .u64 0), (Value.bool false), (Value.int .i64 0)] 1 [(0, 3, x17)] (fun x18 => andP (andP (trueP) (andP (load1W x13 (fun v => eqP v x14)) (trueP))) (appendW 3 24 x14 x18 (fun x19 => andP (andP (trueP) (trueP)) (nilW a0 (fun x20 => addW 9 x20 (fun x21 => storeW 1 x21 x19 (fun _ => andP (trueP) (nilW a0 (fun x23 => addW 14 x23 (fun x24 => load1W x24 (fun x25 => binIntW .add x25 (Value.int .i64 1) (fun x26 => nilW a0 (fun x27 => addW 14 x27 (fun x28 => storeW 1 x28 x26 (fun _ => nilW a0 (fun x30 => addW 13 x30 (fun x31 => storeW 1 x31 (Value.int .i64 0) (fun _ => drewW (nilW a0 (fun x33 => addW 14 x33 (fun x34 => load1W x34 (fun x35 => nilW a0 (fun x36 => addW 8 x36 (fun x37 => load1W x37 (fun x38 => lenW x38 (fun x39 => binIntW .eql x35 x39 (fun x40 => joinW0 (K (Value.tuple #[])) (fun j1 => condP x40 (nilW a0 (fun x41 => addW 13 x41 (fun x42 => storeW 1 x42 (Value.int .i64 2) (fun _ => nilW a0 (fun x44 => addW 14 x44 (fun x45 => storeW 1 x45 (Value.int .i64 0) (fun _ => j1))))))) (j1))))))))))))))))))))))))))))))))))))))))) (addW 1 x1 (fun x47 => addW 1 x47 (fun x48 => load1W x48 (fun x49 => condP x49 (drewW (nilW a0 (fun x50 => addW 0 x50 (fun x51 => addW 1 x1 (fun x52 => loadNW 3 x52 (fun x53 => CP Tryz.prog Fn.ref23_Step_held [x51, x53] (fun x54 => andP (andP (trueP) (trueP)) (notW x54 (fun x55 => joinW0 (K (Value.tuple #[])) (fun j2 => condP x55 (drewW (nilW a0 (fun x56 => addW 0 x56 (fun x57 => addW 2 x57 (fun x58 => load1W x58 (fun x59 => nilW a0 (fun x60 => addW 0 x60 (fun x61 => addW 3 x61 (fun x62 => load1W x62 (fun x63 => nilW a0 (fun x64 => addW 0 x64 (fun x65 => addW 4 x65 (fun x66 => load1W x66 (fun x67 => CP Tryz.prog Fn.ref23_Commit_out [a0, x59, x63, x67] (fun x68 => andP (andP (trueP) (andP (trueP) (andP (trueP) (trueP)))) (j2)))))))))))))))) (j2))))))))))) (nilW a0 (fun x69 => addW 13 x69 (fun x70 => load1W x70 (fun x71 => binIntW .eql x71 (Value.int .i64 0) (fun x72 => condP x72 (addW 1 x1 (fun x73 => loadNW 3 x73 (fun x74 => nilW a0 (fun x75 => addW 10 x75 (fun x76 => storeW 3 x76 x74 (fun _ => nilW a0 (fun x78 => addW 13 x78 (fun x79 => storeW 1 x79 (Value.int .i64 1) (fun _ => K (Value.tuple #[])))))))))) (drewW (addW 1 x1 (fun x81 => addW 0 x81 (fun x82 => load1W x82 (fun x83 => nilW a0 (fun x84 => addW 6 x84 (fun x85 => load1W x85 (fun x86 => nilW a0 (fun x87 => addW 14 x87 (fun x88 => load1W x88 (fun x89 => idxW 2 x86 x89 (fun x90 => addW 1 x90 (fun x91 => load1W x91 (fun x92 => binIntW .neq x83 x92 (fun x93 => condP x93 (CP Tryz.prog Fn.ref23_Commit_out [a0, (Value.int .i64 5), (Value.int .i64 0), (Value.int .i64 (-1))] (fun x94 => K (Value.tuple #[]))) (nilW a0 (fun x95 => addW 14 x95 (fun x96 => load1W x96 (fun x97 => binIntW .add x97 (Value.int .i64 1) (fun x98 => nilW a0 (fun x99 => addW 14 x99 (fun x100 => storeW 1 x100 x98 (fun _ => CP Tryz.prog Fn.ref23_Commit_look [a0] (fun x102 => K (Value.tuple #[])))))))))))))))))))))))))))))))))))))))

/-- ref23_Commit_out -/
def S_ref23_Commit_out (a0 a1 a2 a3 : Value) (K : KV) : World → Prop :=
  nilW a0 (fun x1 => addW 0 x1 (fun x2 => addW 2 x2 (fun x3 => storeW 1 x3 a1 (fun _ => nilW a0 (fun x5 => addW 0 x5 (fun x6 => addW 3 x6 (fun x7 => storeW 1 x7 a2 (fun _ => nilW a0 (fun x9 => addW 0 x9 (fun x10 => addW 4 x10 (fun x11 => storeW 1 x11 a3 (fun _ => nilW a0 (fun x13 => addW 9 x13 (fun x14 => load1W x14 (fun x15 => lenW x15 (fun x16 => binIntW .gtr x16 (Value.int .i64 0) (fun x17 => joinW0 (K (Value.tuple #[])) (fun j1 => condP x17 (nilW a0 (fun x18 => addW 16 x18 (fun x19 => storeW 1 x19 a1 (fun _ => nilW a0 (fun x21 => addW 17 x21 (fun x22 => storeW 1 x22 a2 (fun _ => nilW a0 (fun x24 => addW 18 x24 (fun x25 => storeW 1 x25 a3 (fun _ => nilW a0 (fun x27 => addW 0 x27 (fun x28 => addW 2 x28 (fun x29 => storeW 1 x29 (Value.int .i64 0) (fun _ => nilW a0 (fun x31 => addW 0 x31 (fun x32 => addW 3 x32 (fun x33 => storeW 1 x33 (Value.int .i64 0) (fun _ => nilW a0 (fun x35 => addW 0 x35 (fun x36 => addW 4 x36 (fun x37 => storeW 1 x37 (Value.int .i64 (-1)) (fun _ => nilW a0 (fun x39 => addW 13 x39 (fun x40 => storeW 1 x40 (Value.int .i64 7) (fun _ => nilW a0 (fun x42 => addW 14 x42 (fun x43 => storeW 1 x43 (Value.int .i64 0) (fun _ => j1)))))))))))))))))))))))))))) (j1)))))))))))))))))))

/-- ref23_Commit_write -/
def S_ref23_Commit_write (a0 : Value) (K : KV) : World → Prop :=
  nilW a0 (fun x1 => addW 13 x1 (fun x2 => storeW 1 x2 (Value.int .i64 5) (fun _ => nilW a0 (fun x4 => addW 14 x4 (fun x5 => storeW 1 x5 (Value.int .i64 0) (fun _ => nilW a0 (fun x7 => addW 7 x7 (fun x8 => load1W x8 (fun x9 => lenW x9 (fun x10 => binIntW .eql x10 (Value.int .i64 0) (fun x11 => joinW0 (K (Value.tuple #[])) (fun j1 => condP x11 (CP Tryz.prog Fn.ref23_Commit_free [a0] (fun x12 => j1)) (j1)))))))))))))

/-- ref23_Commit_look -/
def S_ref23_Commit_look (a0 : Value) (K : KV) : World → Prop :=
  loopW0 (fun J1 => drewW (nilW a0 (fun x1 => addW 14 x1 (fun x2 => load1W x2 (fun x3 => nilW a0 (fun x4 => addW 6 x4 (fun x5 => load1W x5 (fun x6 => lenW x6 (fun x7 => binIntW .lss x3 x7 (fun x8 => condP x8 (drewW (nilW a0 (fun x9 => addW 6 x9 (fun x10 => load1W x10 (fun x11 => nilW a0 (fun x12 => addW 14 x12 (fun x13 => load1W x13 (fun x14 => idxW 2 x11 x14 (fun x15 => addW 0 x15 (fun x16 => load1W x16 (fun x17 => CP Tryz.prog Fn.ref23_Commit_own [a0, x17] (fun x18 => andP (andP (trueP) (andP (trueP) (andP (trueP) (trueP)))) (extractW 0 x18 (fun x19 => extractW 1 x18 (fun x20 => notW x20 (fun x21 => condP x21 (K (Value.tuple #[])) (drewW (nilW a0 (fun x22 => addW 6 x22 (fun x23 => load1W x23 (fun x24 => nilW a0 (fun x25 => addW 14 x25 (fun x26 => load1W x26 (fun x27 => idxW 2 x24 x27 (fun x28 => addW 1 x28 (fun x29 => load1W x29 (fun x30 => binIntW .neq x19 x30 (fun x31 => condP x31 (CP Tryz.prog Fn.ref23_Commit_out [a0, (Value.int .i64 5), (Value.int .i64 0), (Value.int .i64 (-1))] (fun x32 => K (Value.tuple #[]))) (nilW a0 (fun x33 => addW 14 x33 (fun x34 => load1W x34 (fun x35 => binIntW .add x35 (Value.int .i64 1) (fun x36 => nilW a0 (fun x37 => addW 14 x37 (fun x38 => storeW 1 x38 x36 (fun _ => J1)))))))))))))))))))))))))))))))))))) (CP Tryz.prog Fn.ref23_Commit_write [a0] (fun x40 => K (Value.tuple #[])))))))))))))

/-- ref23_Commit_free -/
def S_ref23_Commit_free (a0 : Value) (K : KV) : World → Prop :=
  nilW a0 (fun x1 => addW 13 x1 (fun x2 => storeW 1 x2 (Value.int .i64 6) (fun _ => nilW a0 (fun x4 => addW 14 x4 (fun x5 => storeW 1 x5 (Value.int .i64 0) (fun _ => nilW a0 (fun x7 => addW 8 x7 (fun x8 => load1W x8 (fun x9 => lenW x9 (fun x10 => binIntW .eql x10 (Value.int .i64 0) (fun x11 => joinW0 (K (Value.tuple #[])) (fun j1 => condP x11 (nilW a0 (fun x12 => addW 0 x12 (fun x13 => addW 2 x13 (fun x14 => storeW 1 x14 (Value.int .i64 2) (fun _ => j1))))) (j1)))))))))))))

/-- mem_Held -/
def S_mem_Held (a0 : Value) (K : KV) : World → Prop :=
  boxW a0 (fun x1 => newW #[(Value.int .i64 0), (Value.int .i64 0), (Value.int .i64 0), (Value.int .i64 0), (Value.int .u64 0)] (fun x2 => addW 0 x1 (fun x3 => load1W x3 (fun x4 => minW x4 [(Value.int .i64 256)] (fun x5 => maxW (Value.int .i64 32) [x5] (fun x6 => addW 1 x1 (fun x7 => load1W x7 (fun x8 => minW x8 [(Value.int .i64 16)] (fun x9 => maxW (Value.int .i64 1) [x9] (fun x10 => addW 2 x1 (fun x11 => load1W x11 (fun x12 => minW x12 [(Value.int .i64 16)] (fun x13 => maxW (Value.int .i64 1) [x13] (fun x14 => addW 3 x1 (fun x15 => load1W x15 (fun x16 => minW x16 [(Value.int .i64 4)] (fun x17 => maxW (Value.int .i64 1) [x17] (fun x18 => addW 4 x1 (fun x19 => load1W x19 (fun x20 => minW x20 [(Value.int .u64 4611686018427387903)] (fun x21 => buildW [(Value.int .i64 0), (Value.int .i64 0), (Value.int .i64 0), (Value.int .i64 0), (Value.int .u64 0)] [(0, 1, x6), (1, 1, x10), (2, 1, x14), (3, 1, x18), (4, 1, x21)] (fun x22 => storeW 5 x2 x22 (fun _ => loadNW 5 x2 (fun x24 => K x24))))))))))))))))))))))))

/-- heap_New -/
def S_heap_New (a0 : Value) (K : KV) : World → Prop :=
  minW a0 [(Value.int .i64 256)] (fun x1 => maxW (Value.int .i64 32) [x1] (fun x2 => makeSliceW 8 [(Value.int .u64 0)] x2 x2 (fun x3 => buildW [(Value.slice none 0 0)] [(0, 1, x3)] (fun x4 => boxW x4 (fun x5 => K x5)))))

/-- stripe_New -/
def S_stripe_New (a0 a1 : Value) (K : KV) : World → Prop :=
  drewW (CP Tryz.prog Fn.stripe_near [a0, (Value.int .i64 16)] (fun x1 => andP (trueP) (andP (makeSliceW 24 [(Value.int .u64 0), (Value.bool false), (Value.int .i64 0)] x1 x1 (fun x2 => andP (trueP) (CP Tryz.prog Fn.stripe_near [a1, (Value.int .i64 16)] (fun x3 => andP (trueP) (buildW [(Value.slice none 0 0), (Value.int .i64 0)] [(0, 1, x2), (1, 1, x3)] (fun x4 => boxW x4 (fun x5 => andP (trueP) (K x5)))))))) (CP Tryz.prog Fn.stripe_near [a1, (Value.int .i64 16)] (fun x6 => andP (trueP) (makeSliceW 24 [(Value.int .u64 0), (Value.bool false), (Value.int .i64 0)] x1 x1 (fun x7 => andP (trueP) (buildW [(Value.slice none 0 0), (Value.int .i64 0)] [(0, 1, x7), (1, 1, x6)] (fun x8 => boxW x8 (fun x9 => andP (trueP) (K x9)))))))))))

/-- clock_New -/
def S_clock_New (a0 : Value) (K : KV) : World → Prop :=
  minW a0 [(Value.int .u64 4611686018427387903)] (fun x1 => buildW [(Value.int .u64 0)] [(0, 1, x1)] (fun x2 => boxW x2 (fun x3 => K x3)))

/-- epoch_New -/
def S_epoch_New (a0 : Value) (K : KV) : World → Prop :=
  minW a0 [(Value.int .i64 4)] (fun x1 => maxW (Value.int .i64 1) [x1] (fun x2 => makeSliceW 8 [(Value.int .u64 0)] x2 x2 (fun x3 => buildW [(Value.slice none 0 0)] [(0, 1, x3)] (fun x4 => boxW x4 (fun x5 => K x5)))))

/-- mem_Mem_do -/
def S_mem_Mem_do (a0 a1 : Value) (K : KV) : World → Prop :=
  boxW a1 (fun x1 => newW #[(Value.int .u64 0), (Value.int .u64 0), (Value.bool false), (Value.int .i64 0), (Value.bool false), (Value.int .i64 0)] (fun x2 => newW #[(Value.int .u64 0), (Value.int .u64 0), (Value.bool false), (Value.int .i64 0), (Value.bool false), (Value.int .i64 0)] (fun x3 => addW 0 x1 (fun x4 => load1W x4 (fun x5 => binIntW .eql x5 (Value.int .i64 1) (fun x6 => joinW0 (loadNW 6 x3 (fun x7 => storeW 6 x2 x7 (fun _ => loadNW 6 x2 (fun x9 => K x9)))) (fun j1 => condP x6 (drewW (nilW a0 (fun x10 => addW 5 x10 (fun x11 => load1W x11 (fun x12 => addW 1 x1 (fun x13 => load1W x13 (fun x14 => CP Tryz.prog Fn.heap_Heap_Load [x12, x14] (fun x15 => andP (andP (trueP) (andP (trueP) (trueP))) (extractW 0 x15 (fun x16 => extractW 1 x15 (fun x17 => addW 0 x3 (fun x18 => storeW 1 x18 x16 (fun _ => andP (trueP) (addW 5 x3 (fun x20 => storeW 1 x20 x17 (fun _ => andP (trueP) (j1))))))))))))))))) (binIntW .eql x5 (Value.int .i64 2) (fun x22 => joinW0 (j1) (fun j2 => condP x22 (drewW (nilW a0 (fun x23 => addW 5 x23 (fun x24 => load1W x24 (fun x25 => addW 1 x1 (fun x26 => load1W x26 (fun x27 => addW 3 x1 (fun x28 => load1W x28 (fun x29 => CP Tryz.prog Fn.heap_Heap_Store [x25, x27, x29] (fun x30 => andP (andP (trueP) (andP (trueP) (andP (trueP) (trueP)))) (addW 5 x3 (fun x31 => storeW 1 x31 x30 (fun _ => andP (trueP) (j2)))))))))))))) (binIntW .eql x5 (Value.int .i64 3) (fun x33 => joinW0 (j2) (fun j3 => condP x33 (drewW (nilW a0 (fun x34 => addW 6 x34 (fun x35 => load1W x35 (fun x36 => addW 1 x1 (fun x37 => load1W x37 (fun x38 => CP Tryz.prog Fn.stripe_Table_Load [x36, x38] (fun x39 => andP (andP (trueP) (andP (trueP) (trueP))) (extractW 0 x39 (fun x40 => extractW 1 x39 (fun x41 => addW 1 x3 (fun x42 => storeW 3 x42 x40 (fun _ => andP (trueP) (addW 5 x3 (fun x44 => storeW 1 x44 x41 (fun _ => andP (trueP) (j3))))))))))))))))) (binIntW .eql x5 (Value.int .i64 4) (fun x46 => joinW0 (j3) (fun j4 => condP x46 (drewW (nilW a0 (fun x47 => addW 6 x47 (fun x48 => load1W x48 (fun x49 => addW 1 x1 (fun x50 => load1W x50 (fun x51 => addW 4 x1 (fun x52 => loadNW 3 x52 (fun x53 => addW 7 x1 (fun x54 => loadNW 3 x54 (fun x55 => CP Tryz.prog Fn.stripe_Table_Cas [x49, x51, x53, x55] (fun x56 => andP (andP (trueP) (andP (trueP) (andP (trueP) (andP (trueP) (trueP))))) (extractW 0 x56 (fun x57 => extractW 1 x56 (fun x58 => addW 4 x3 (fun x59 => storeW 1 x59 x57 (fun _ => andP (trueP) (addW 5 x3 (fun x61 => storeW 1 x61 x58 (fun _ => andP (trueP) (j4))))))))))))))))))))) (binIntW .eql x5 (Value.int .i64 5) (fun x63 => joinW0 (j4) (fun j5 => condP x63 (drewW (nilW a0 (fun x64 => addW 6 x64 (fun x65 => load1W x65 (fun x66 => addW 1 x1 (fun x67 => load1W x67 (fun x68 => addW 7 x1 (fun x69 => loadNW 3 x69 (fun x70 => CP Tryz.prog Fn.stripe_Table_Store [x66, x68, x70] (fun x71 => andP (andP (trueP) (andP (trueP) (andP (trueP) (trueP)))) (addW 5 x3 (fun x72 => storeW 1 x72 x71 (fun _ => andP (trueP) (j5)))))))))))))) (binIntW .eql x5 (Value.int .i64 6) (fun x74 => joinW0 (j5) (fun j6 => condP x74 (nilW a0 (fun x75 => addW 7 x75 (fun x76 => load1W x76 (fun x77 => CP Tryz.prog Fn.clock_Clock_Load [x77] (fun x78 => addW 0 x3 (fun x79 => storeW 1 x79 x78 (fun _ => j6))))))) (binIntW .eql x5 (Value.int .i64 7) (fun x81 => joinW0 (j6) (fun j7 => condP x81 (drewW (nilW a0 (fun x82 => addW 7 x82 (fun x83 => load1W x83 (fun x84 => addW 2 x1 (fun x85 => load1W x85 (fun x86 => addW 3 x1 (fun x87 => load1W x87 (fun x88 => CP Tryz.prog Fn.clock_Clock_Cas [x84, x86, x88] (fun x89 => andP (andP (trueP) (andP (trueP) (andP (trueP) (trueP)))) (extractW 0 x89 (fun x90 => extractW 1 x89 (fun x91 => addW 4 x3 (fun x92 => storeW 1 x92 x90 (fun _ => andP (trueP) (addW 5 x3 (fun x94 => storeW 1 x94 x91 (fun _ => andP (trueP) (j7))))))))))))))))))) (binIntW .eql x5 (Value.int .i64 8) (fun x96 => joinW0 (j7) (fun j8 => condP x96 (drewW (nilW a0 (fun x97 => addW 8 x97 (fun x98 => load1W x98 (fun x99 => addW 1 x1 (fun x100 => load1W x100 (fun x101 => CP Tryz.prog Fn.epoch_Slots_Load [x99, x101] (fun x102 => andP (andP (trueP) (andP (trueP) (trueP))) (extractW 0 x102 (fun x103 => extractW 1 x102 (fun x104 => addW 0 x3 (fun x105 => storeW 1 x105 x103 (fun _ => andP (trueP) (addW 5 x3 (fun x107 => storeW 1 x107 x104 (fun _ => andP (trueP) (j8))))))))))))))))) (binIntW .eql x5 (Value.int .i64 9) (fun x109 => joinW0 (j8) (fun j9 => condP x109 (drewW (nilW a0 (fun x110 => addW 8 x110 (fun x111 => load1W x111 (fun x112 => addW 1 x1 (fun x113 => load1W x113 (fun x114 => addW 3 x1 (fun x115 => load1W x115 (fun x116 => CP Tryz.prog Fn.epoch_Slots_Store [x112, x114, x116] (fun x117 => andP (andP (trueP) (andP (trueP) (andP (trueP) (trueP)))) (addW 5 x3 (fun x118 => storeW 1 x118 x117 (fun _ => andP (trueP) (j9)))))))))))))) (addW 5 x3 (fun x120 => storeW 1 x120 (Value.int .i64 1) (fun _ => j9))))))))))))))))))))))))))))))))))

/-- stripe_Table_All -/
def S_stripe_Table_All (a0 : Value) (K : KV) : World → Prop :=
  nilW a0 (fun x1 => addW 0 x1 (fun x2 => load1W x2 (fun x3 => CP Tryz.prog Fn.slices_Clone_api_Lock_api_Lock [x3] (fun x4 => K x4))))

/-- heap_Heap_All -/
def S_heap_Heap_All (a0 : Value) (K : KV) : World → Prop :=
  nilW a0 (fun x1 => addW 0 x1 (fun x2 => load1W x2 (fun x3 => CP Tryz.prog Fn.slices_Clone_uint64_uint64 [x3] (fun x4 => K x4))))

/-- clock_Clock_Load -/
def S_clock_Clock_Load (a0 : Value) (K : KV) : World → Prop :=
  nilW a0 (fun x1 => addW 0 x1 (fun x2 => load1W x2 (fun x3 => K x3)))

/-- ref1_Held -/
def S_ref1_Held (a0 a1 a2 : Value) (K : KV) : World → Prop :=
  binIntW .lss a0 a1 (fun x1 => condP x1 (K a1) (binIntW .gtr a0 a2 (fun x2 => condP x2 (K a2) (K a0))))

/-- stripe_Of -/
def S_stripe_Of (a0 a1 a2 : Value) (K : KV) : World → Prop :=
  binIntW .lss a0 (Value.int .i64 0) (fun x1 => condP x1 (K (Value.int .i64 (-1))) (drewW (CP Tryz.prog Fn.stripe_near [a2, (Value.int .i64 16)] (fun x2 => andP (trueP) (binIntW .quo a0 x2 (fun x3 => CP Tryz.prog Fn.stripe_near [a1, (Value.int .i64 16)] (fun x4 => andP (trueP) (binIntW .rem x3 x4 (fun x5 => K x5)))))))))

/-- slices_Sort_int_int -/
def S_slices_Sort_int_int (a0 : Value) (K : KV) : World → Prop :=
  lenW a0 (fun x1 => convW .u64 x1 (fun x2 => CP Tryz.prog Fn.math_bits_Len [x2] (fun x3 => CP Tryz.prog Fn.slices_pdqsortOrdered_int [a0, (Value.int .i64 0), x1, x3] (fun x4 => K (Value.tuple #[])))))

/-- ref1_Of -/
def S_ref1_Of (a0 a1 a2 : Value) (K : KV) : World → Prop :=
  binIntW .lss a0 (Value.int .i64 0) (fun x1 => condP x1 (K (Value.int .i64 (-1))) (drewW (CP Tryz.prog Fn.ref1_Held [a2, (Value.int .i64 1), (Value.int .i64 16)] (fun x2 => andP (trueP) (binIntW .quo a0 x2 (fun x3 => CP Tryz.prog Fn.ref1_Held [a1, (Value.int .i64 1), (Value.int .i64 16)] (fun x4 => andP (trueP) (binIntW .rem x3 x4 (fun x5 => K x5)))))))))

/-- patience_Patience_Stop -/
def S_patience_Patience_Stop (a0 a1 a2 a3 : Value) (K : KV) : World → Prop :=
  nilW a0 (fun x1 => addW 2 x1 (fun x2 => storeW 1 x2 a1 (fun _ => nilW a0 (fun x4 => addW 4 x4 (fun x5 => storeW 1 x5 a2 (fun _ => nilW a0 (fun x7 => addW 3 x7 (fun x8 => storeW 1 x8 a3 (fun _ => K (Value.tuple #[]))))))))))

/-- commit_Commit_held -/
def S_commit_Commit_held (a0 a1 : Value) (K : KV) : World → Prop :=
  boxW a1 (fun x1 => drewW (nilW a0 (fun x2 => addW 0 x2 (fun x3 => loadNW 3 x1 (fun x4 => CP Tryz.prog Fn.patience_Patience_Waits [x3, x4] (fun x5 => andP (andP (trueP) (trueP)) (notW x5 (fun x6 => joinW0 (K (Value.tuple #[])) (fun j1 => condP x6 (addW 2 x1 (fun x7 => load1W x7 (fun x8 => CP Tryz.prog Fn.commit_Commit_stop [a0, (Value.int .i64 5), (Value.int .i64 0), x8] (fun x9 => j1)))) (j1))))))))))

/-- commit_Commit_stop -/
def S_commit_Commit_stop (a0 a1 a2 a3 : Value) (K : KV) : World → Prop :=
  nilW a0 (fun x1 => addW 18 x1 (fun x2 => storeW 1 x2 a1 (fun _ => nilW a0 (fun x4 => addW 20 x4 (fun x5 => storeW 1 x5 a2 (fun _ => nilW a0 (fun x7 => addW 19 x7 (fun x8 => storeW 1 x8 a3 (fun _ => nilW a0 (fun x10 => addW 12 x10 (fun x11 => storeW 1 x11 (Value.int .i64 0) (fun _ => nilW a0 (fun x13 => addW 11 x13 (fun x14 => storeW 1 x14 (Value.int .i64 7) (fun _ => CP Tryz.prog Fn.commit_Commit_leave [a0] (fun x16 => K (Value.tuple #[])))))))))))))))))

/-- commit_Commit_begin -/
def S_commit_Commit_begin (a0 : Value) (K : KV) : World → Prop :=
  nilW a0 (fun x1 => addW 17 x1 (fun x2 => storeW 1 x2 (Value.bool true) (fun _ => nilW a0 (fun x4 => addW 12 x4 (fun x5 => storeW 1 x5 (Value.int .i64 0) (fun _ => nilW a0 (fun x7 => addW 11 x7 (fun x8 => storeW 1 x8 (Value.int .i64 5) (fun _ => CP Tryz.prog Fn.commit_Commit_write [a0] (fun x10 => K (Value.tuple #[])))))))))))

/-- commit_Commit_prove -/
def S_commit_Commit_prove (a0 : Value) (K : KV) : World → Prop :=
  nilW a0 (fun x1 => addW 11 x1 (fun x2 => storeW 1 x2 (Value.int .i64 4) (fun _ => loopW0 (fun J1 => drewW (nilW a0 (fun x4 => addW 12 x4 (fun x5 => load1W x5 (fun x6 => nilW a0 (fun x7 => addW 7 x7 (fun x8 => load1W x8 (fun x9 => lenW x9 (fun x10 => binIntW .lss x6 x10 (fun x11 => condP x11 (drewW (nilW a0 (fun x12 => addW 9 x12 (fun x13 => load1W x13 (fun x14 => nilW a0 (fun x15 => addW 7 x15 (fun x16 => load1W x16 (fun x17 => nilW a0 (fun x18 => addW 12 x18 (fun x19 => load1W x19 (fun x20 => idxW 2 x17 x20 (fun x21 => addW 0 x21 (fun x22 => load1W x22 (fun x23 => CP Tryz.prog Fn.slices_BinarySearch_int_int [x14, x23] (fun x24 => andP (andP (trueP) (andP (trueP) (andP (trueP) (andP (trueP) (trueP))))) (extractW 0 x24 (fun x25 => extractW 1 x24 (fun x26 => notW x26 (fun x27 => condP x27 (K (Value.tuple #[])) (drewW (nilW a0 (fun x28 => addW 10 x28 (fun x29 => load1W x29 (fun x30 => idxW 3 x30 x25 (fun x31 => addW 0 x31 (fun x32 => load1W x32 (fun x33 => nilW a0 (fun x34 => addW 7 x34 (fun x35 => load1W x35 (fun x36 => nilW a0 (fun x37 => addW 12 x37 (fun x38 => load1W x38 (fun x39 => idxW 2 x36 x39 (fun x40 => addW 1 x40 (fun x41 => load1W x41 (fun x42 => binIntW .neq x33 x42 (fun x43 => condP x43 (CP Tryz.prog Fn.commit_Commit_stop [a0, (Value.int .i64 5), (Value.int .i64 0), (Value.int .i64 (-1))] (fun x44 => K (Value.tuple #[]))) (nilW a0 (fun x45 => addW 12 x45 (fun x46 => load1W x46 (fun x47 => binIntW .add x47 (Value.int .i64 1) (fun x48 => nilW a0 (fun x49 => addW 12 x49 (fun x50 => storeW 1 x50 x48 (fun _ => J1))))))))))))))))))))))))))))))))))))))))))))) (CP Tryz.prog Fn.commit_Commit_begin [a0] (fun x52 => K (Value.tuple #[]))))))))))))))))

/-- ref23_Step_held -/
def S_ref23_Step_held (a0 a1 : Value) (K : KV) : World → Prop :=
  boxW a1 (fun x1 => drewW (addW 2 x1 (fun x2 => load1W x2 (fun x3 => nilW a0 (fun x4 => addW 0 x4 (fun x5 => load1W x5 (fun x6 => binIntW .gtr x3 x6 (fun x7 => condP x7 (K (Value.bool true)) (nilW a0 (fun x8 => addW 1 x8 (fun x9 => load1W x9 (fun x10 => binIntW .gtr x10 (Value.int .i64 0) (fun x11 => condP x11 (nilW a0 (fun x12 => addW 1 x12 (fun x13 => load1W x13 (fun x14 => binIntW .sub x14 (Value.int .i64 1) (fun x15 => nilW a0 (fun x16 => addW 1 x16 (fun x17 => storeW 1 x17 x15 (fun _ => K (Value.bool true))))))))) (drewW (addW 2 x1 (fun x19 => load1W x19 (fun x20 => nilW a0 (fun x21 => addW 2 x21 (fun x22 => storeW 1 x22 (Value.int .i64 5) (fun _ => andP (andP (load1W x19 (fun v => eqP v x20)) (trueP)) (nilW a0 (fun x24 => addW 4 x24 (fun x25 => storeW 1 x25 x20 (fun _ => andP (andP (trueP) (trueP)) (K (Value.bool false))))))))))))))))))))))))))

/-- ref23_Commit_own -/
def S_ref23_Commit_own (a0 a1 : Value) (K : KV) : World → Prop :=
  loopW1 (Value.int .i64 0) (fun J1 x1 => nilW a0 (fun x2 => addW 9 x2 (fun x3 => load1W x3 (fun x4 => lenW x4 (fun x5 => binIntW .lss x1 x5 (fun x6 => condP x6 (nilW a0 (fun x7 => addW 8 x7 (fun x8 => load1W x8 (fun x9 => idxW 1 x9 x1 (fun x10 => load1W x10 (fun x11 => binIntW .eql x11 a1 (fun x12 => condP x12 (nilW a0 (fun x13 => addW 9 x13 (fun x14 => load1W x14 (fun x15 => idxW 3 x15 x1 (fun x16 => addW 0 x16 (fun x17 => load1W x17 (fun x18 => K (Value.tuple #[x18, (Value.bool true)])))))))) (binIntW .add x1 (Value.int .i64 1) (fun x19 => J1 x19))))))))) (K (Value.tuple #[(Value.int .u64 0), (Value.bool false)]))))))))

/-- stripe_near -/
def S_stripe_near (a0 a1 : Value) (K : KV) : World → Prop :=
  minW a0 [a1] (fun x1 => maxW (Value.int .i64 1) [x1] (fun x2 => K x2))

/-- heap_Heap_Load -/
def S_heap_Heap_Load (a0 a1 : Value) (K : KV) : World → Prop :=
  CP Tryz.prog Fn.heap_Heap_is [a0, a1] (fun x1 => notW x1 (fun x2 => condP x2 (K (Value.tuple #[(Value.int .u64 0), (Value.int .i64 2)])) (nilW a0 (fun x3 => addW 0 x3 (fun x4 => load1W x4 (fun x5 => idxW 1 x5 a1 (fun x6 => load1W x6 (fun x7 => K (Value.tuple #[x7, (Value.int .i64 0)])))))))))

/-- heap_Heap_Store -/
def S_heap_Heap_Store (a0 a1 a2 : Value) (K : KV) : World → Prop :=
  CP Tryz.prog Fn.heap_Heap_is [a0, a1] (fun x1 => notW x1 (fun x2 => condP x2 (K (Value.int .i64 2)) (nilW a0 (fun x3 => addW 0 x3 (fun x4 => load1W x4 (fun x5 => idxW 1 x5 a1 (fun x6 => storeW 1 x6 a2 (fun _ => K (Value.int .i64 0)))))))))

/-- stripe_Table_Load -/
def S_stripe_Table_Load (a0 a1 : Value) (K : KV) : World → Prop :=
  newW #[(Value.int .u64 0), (Value.bool false), (Value.int .i64 0)] (fun x1 => CP Tryz.prog Fn.stripe_Table_is [a0, a1] (fun x2 => notW x2 (fun x3 => condP x3 (buildW [(Value.int .u64 0), (Value.bool false), (Value.int .i64 0)] [] (fun x4 => storeW 3 x1 x4 (fun _ => loadNW 3 x1 (fun x6 => K (Value.tuple #[x6, (Value.int .i64 2)]))))) (nilW a0 (fun x7 => addW 0 x7 (fun x8 => load1W x8 (fun x9 => idxW 3 x9 a1 (fun x10 => loadNW 3 x10 (fun x11 => storeW 3 x1 x11 (fun _ => loadNW 3 x1 (fun x13 => K (Value.tuple #[x13, (Value.int .i64 0)]))))))))))))

/-- stripe_Table_Cas -/
def S_stripe_Table_Cas (a0 a1 a2 a3 : Value) (K : KV) : World → Prop :=
  boxW a2 (fun x1 => boxW a3 (fun x2 => loadNW 3 x2 (fun x3 => CP Tryz.prog Fn.stripe_Table_may [a0, a1, x3] (fun x4 => binIntW .neq x4 (Value.int .i64 0) (fun x5 => condP x5 (K (Value.tuple #[(Value.bool false), x4])) (drewW (nilW a0 (fun x6 => addW 0 x6 (fun x7 => load1W x7 (fun x8 => idxW 3 x8 a1 (fun x9 => loadNW 3 x9 (fun x10 => loadNW 3 x1 (fun x11 => eqAggW [.i .u64, .b, .i .i64] .neq x10 x11 (fun x12 => condP x12 (K (Value.tuple #[(Value.bool false), (Value.int .i64 0)])) (drewW (nilW a0 (fun x13 => addW 0 x13 (fun x14 => load1W x14 (fun x15 => loadNW 3 x2 (fun x16 => idxW 3 x15 a1 (fun x17 => storeW 3 x17 x16 (fun _ => andP (andP (trueP) (andP (trueP) (trueP))) (K (Value.tuple #[(Value.bool true), (Value.int .i64 0)]))))))))))))))))))))))))

/-- stripe_Table_Store -/
def S_stripe_Table_Store (a0 a1 a2 : Value) (K : KV) : World → Prop :=
  boxW a2 (fun x1 => loadNW 3 x1 (fun x2 => CP Tryz.prog Fn.stripe_Table_may [a0, a1, x2] (fun x3 => binIntW .eql x3 (Value.int .i64 0) (fun x4 => joinW0 (K x3) (fun j1 => condP x4 (drewW (nilW a0 (fun x5 => addW 0 x5 (fun x6 => load1W x6 (fun x7 => loadNW 3 x1 (fun x8 => idxW 3 x7 a1 (fun x9 => storeW 3 x9 x8 (fun _ => andP (andP (trueP) (andP (trueP) (trueP))) (j1))))))))) (j1))))))

/-- clock_Clock_Cas -/
def S_clock_Clock_Cas (a0 a1 a2 : Value) (K : KV) : World → Prop :=
  binIntW .leq a2 a1 (fun x1 => condP x1 (K (Value.tuple #[(Value.bool false), (Value.int .i64 1)])) (binIntW .geq a2 (Value.int .u64 4611686018427387904) (fun x2 => condP x2 (K (Value.tuple #[(Value.bool false), (Value.int .i64 7)])) (nilW a0 (fun x3 => addW 0 x3 (fun x4 => load1W x4 (fun x5 => binIntW .neq x5 a1 (fun x6 => condP x6 (K (Value.tuple #[(Value.bool false), (Value.int .i64 0)])) (nilW a0 (fun x7 => addW 0 x7 (fun x8 => storeW 1 x8 a2 (fun _ => K (Value.tuple #[(Value.bool true), (Value.int .i64 0)])))))))))))))

/-- epoch_Slots_Load -/
def S_epoch_Slots_Load (a0 a1 : Value) (K : KV) : World → Prop :=
  CP Tryz.prog Fn.epoch_Slots_is [a0, a1] (fun x1 => notW x1 (fun x2 => condP x2 (K (Value.tuple #[(Value.int .u64 0), (Value.int .i64 2)])) (nilW a0 (fun x3 => addW 0 x3 (fun x4 => load1W x4 (fun x5 => idxW 1 x5 a1 (fun x6 => load1W x6 (fun x7 => K (Value.tuple #[x7, (Value.int .i64 0)])))))))))

/-- epoch_Slots_Store -/
def S_epoch_Slots_Store (a0 a1 a2 : Value) (K : KV) : World → Prop :=
  CP Tryz.prog Fn.epoch_Slots_is [a0, a1] (fun x1 => notW x1 (fun x2 => condP x2 (K (Value.int .i64 2)) (nilW a0 (fun x3 => addW 0 x3 (fun x4 => load1W x4 (fun x5 => idxW 1 x5 a1 (fun x6 => storeW 1 x6 a2 (fun _ => K (Value.int .i64 0)))))))))

/-- slices_Clone_api_Lock_api_Lock -/
def S_slices_Clone_api_Lock_api_Lock (a0 : Value) (K : KV) : World → Prop :=
  eqNilSliceW .eql a0 (Value.slice none 0 0) (fun x1 => condP x1 (K (Value.slice none 0 0)) (buildSliceW [(Value.int .u64 0), (Value.bool false), (Value.int .i64 0)] 0 [] (fun x2 => appendW 3 24 x2 a0 (fun x3 => K x3))))

/-- slices_Clone_uint64_uint64 -/
def S_slices_Clone_uint64_uint64 (a0 : Value) (K : KV) : World → Prop :=
  eqNilSliceW .eql a0 (Value.slice none 0 0) (fun x1 => condP x1 (K (Value.slice none 0 0)) (buildSliceW [(Value.int .u64 0)] 0 [] (fun x2 => appendW 1 8 x2 a0 (fun x3 => K x3))))

/-- math_bits_Len -/
def S_math_bits_Len (a0 : Value) (K : KV) : World → Prop :=
  condP (Value.bool false) (convW .u32 a0 (fun x1 => CP Tryz.prog Fn.math_bits_Len32 [x1] (fun x2 => K x2))) (CP Tryz.prog Fn.math_bits_Len64 [a0] (fun x3 => K x3))

/-- patience_Patience_Waits -/
def S_patience_Patience_Waits (a0 a1 : Value) (K : KV) : World → Prop :=
  boxW a1 (fun x1 => drewW (addW 2 x1 (fun x2 => load1W x2 (fun x3 => nilW a0 (fun x4 => addW 0 x4 (fun x5 => load1W x5 (fun x6 => binIntW .gtr x3 x6 (fun x7 => condP x7 (K (Value.bool true)) (nilW a0 (fun x8 => addW 1 x8 (fun x9 => load1W x9 (fun x10 => binIntW .sub x10 (Value.int .i64 1) (fun x11 => nilW a0 (fun x12 => addW 1 x12 (fun x13 => storeW 1 x13 x11 (fun _ => nilW a0 (fun x15 => addW 1 x15 (fun x16 => load1W x16 (fun x17 => binIntW .geq x17 (Value.int .i64 0) (fun x18 => K x18))))))))))))))))))))

/-- slices_BinarySearch_int_int -/
def S_slices_BinarySearch_int_int (a0 a1 : Value) (K : KV) : World → Prop :=
  lenW a0 (fun x1 => loopW2 (Value.int .i64 0) x1 (fun J1 x2 x3 => binIntW .lss x2 x3 (fun x4 => condP x4 (binIntW .add x2 x3 (fun x5 => convW .u64 x5 (fun x6 => binIntW .shr x6 (Value.int .u64 1) (fun x7 => convW .i64 x7 (fun x8 => idxW 1 a0 x8 (fun x9 => load1W x9 (fun x10 => CP Tryz.prog Fn.cmp_Less_int [x10, a1] (fun x11 => joinW2 (fun x12 x13 => J1 x12 x13) (fun j1 => condP x11 (binIntW .add x8 (Value.int .i64 1) (fun x14 => j1 x14 x3)) (j1 x2 x8)))))))))) (binIntW .lss x2 x1 (fun x15 => gW x15 true (fun K => K a0) (fun x16 => gW x15 true (fun K => K x2) (fun x17 => gW x15 true (fun K => idxW 1 x16 x17 K) (fun x18 => gW x15 true (fun K => load1W x18 K) (fun x19 => gW x15 true (fun K => K a1) (fun x20 => gW x15 true (fun K => binIntW .eql x19 x20 K) (fun x21 => gW x15 true (fun K => K x21) (fun x22 => gW x22 false (fun K => K a0) (fun x23 => gW x22 false (fun K => K x2) (fun x24 => gW x22 false (fun K => idxW 1 x23 x24 K) (fun x25 => gW x22 false (fun K => load1W x25 K) (fun x26 => gW x22 false (fun K => CP Tryz.prog Fn.slices_isNaN_int [x26] K) (fun x27 => gW x22 false (fun K => K x27) (fun x28 => gW x28 true (fun K => K a1) (fun x29 => gW x28 true (fun K => CP Tryz.prog Fn.slices_isNaN_int [x29] K) (fun x30 => gW x22 false (fun K => pickW x28 x30 (Value.bool false) K) (fun x31 => gW x15 true (fun K => pickW x22 (Value.bool true) x31 K) (fun x32 => pickW x15 x32 (Value.bool false) (fun x33 => K (Value.tuple #[x2, x33]))))))))))))))))))))))))

/-- heap_Heap_is -/
def S_heap_Heap_is (a0 a1 : Value) (K : KV) : World → Prop :=
  binIntW .geq a1 (Value.int .i64 1) (fun x1 => gW x1 true (fun K => K a1) (fun x2 => gW x1 true (fun K => K a0) (fun x3 => gW x1 true (fun K => nilW x3 K) (fun x4 => gW x1 true (fun K => addW 0 x4 K) (fun x5 => gW x1 true (fun K => load1W x5 K) (fun x6 => gW x1 true (fun K => lenW x6 K) (fun x7 => gW x1 true (fun K => binIntW .lss x2 x7 K) (fun x8 => pickW x1 x8 (Value.bool false) (fun x9 => K x9)))))))))

/-- stripe_Table_is -/
def S_stripe_Table_is (a0 a1 : Value) (K : KV) : World → Prop :=
  binIntW .geq a1 (Value.int .i64 0) (fun x1 => gW x1 true (fun K => K a1) (fun x2 => gW x1 true (fun K => K a0) (fun x3 => gW x1 true (fun K => nilW x3 K) (fun x4 => gW x1 true (fun K => addW 0 x4 K) (fun x5 => gW x1 true (fun K => load1W x5 K) (fun x6 => gW x1 true (fun K => lenW x6 K) (fun x7 => gW x1 true (fun K => binIntW .lss x2 x7 K) (fun x8 => pickW x1 x8 (Value.bool false) (fun x9 => K x9)))))))))

/-- stripe_Table_may -/
def S_stripe_Table_may (a0 a1 a2 : Value) (K : KV) : World → Prop :=
  boxW a2 (fun x1 => CP Tryz.prog Fn.stripe_Table_is [a0, a1] (fun x2 => notW x2 (fun x3 => condP x3 (K (Value.int .i64 2)) (loadNW 3 x1 (fun x4 => CP Tryz.prog Fn.lock_Is [x4] (fun x5 => notW x5 (fun x6 => condP x6 (K (Value.int .i64 1)) (K (Value.int .i64 0)))))))))

/-- epoch_Slots_is -/
def S_epoch_Slots_is (a0 a1 : Value) (K : KV) : World → Prop :=
  binIntW .geq a1 (Value.int .i64 0) (fun x1 => gW x1 true (fun K => K a1) (fun x2 => gW x1 true (fun K => K a0) (fun x3 => gW x1 true (fun K => nilW x3 K) (fun x4 => gW x1 true (fun K => addW 0 x4 K) (fun x5 => gW x1 true (fun K => load1W x5 K) (fun x6 => gW x1 true (fun K => lenW x6 K) (fun x7 => gW x1 true (fun K => binIntW .lss x2 x7 K) (fun x8 => pickW x1 x8 (Value.bool false) (fun x9 => K x9)))))))))

/-- cmp_Less_int -/
def S_cmp_Less_int (a0 a1 : Value) (K : KV) : World → Prop :=
  CP Tryz.prog Fn.cmp_isNaN_int [a0] (fun x1 => gW x1 true (fun K => K a1) (fun x2 => gW x1 true (fun K => CP Tryz.prog Fn.cmp_isNaN_int [x2] K) (fun x3 => gW x1 true (fun K => notW x3 K) (fun x4 => pickW x1 x4 (Value.bool false) (fun x5 => gW x5 false (fun K => K a0) (fun x6 => gW x5 false (fun K => K a1) (fun x7 => gW x5 false (fun K => binIntW .lss x6 x7 K) (fun x8 => pickW x5 (Value.bool true) x8 (fun x9 => K x9)))))))))

/-- slices_isNaN_int -/
def S_slices_isNaN_int (a0 : Value) (K : KV) : World → Prop :=
  binIntW .neq a0 a0 (fun x1 => K x1)

/-- lock_Is -/
def S_lock_Is (a0 : Value) (K : KV) : World → Prop :=
  boxW a0 (fun x1 => addW 1 x1 (fun x2 => load1W x2 (fun x3 => condP x3 (addW 0 x1 (fun x4 => load1W x4 (fun x5 => binIntW .lss x5 (Value.int .u64 4611686018427387904) (fun x6 => gW x6 true (fun K => addW 2 x1 K) (fun x7 => gW x6 true (fun K => load1W x7 K) (fun x8 => gW x6 true (fun K => CP Tryz.prog Fn.lock_owns [x8] K) (fun x9 => pickW x6 x9 (Value.bool false) (fun x10 => K x10)))))))) (addW 0 x1 (fun x11 => load1W x11 (fun x12 => binIntW .lss x12 (Value.int .u64 4611686018427387904) (fun x13 => gW x13 true (fun K => addW 2 x1 K) (fun x14 => gW x13 true (fun K => load1W x14 K) (fun x15 => gW x13 true (fun K => binIntW .eql x15 (Value.int .i64 0) K) (fun x16 => pickW x13 x16 (Value.bool false) (fun x17 => K x17)))))))))))

/-- cmp_isNaN_int -/
def S_cmp_isNaN_int (a0 : Value) (K : KV) : World → Prop :=
  binIntW .neq a0 a0 (fun x1 => K x1)

/-- lock_owns -/
def S_lock_owns (a0 : Value) (K : KV) : World → Prop :=
  binIntW .geq a0 (Value.int .i64 0) (fun x1 => gW x1 true (fun K => K a0) (fun x2 => gW x1 true (fun K => binIntW .lss x2 (Value.int .i64 4) K) (fun x3 => pickW x1 x3 (Value.bool false) (fun x4 => K x4))))

end Go.Proofs.YtokbiojkpldfeaaGreat.S
