/-
  THE PLAIN FORMS OF THE FUNCTIONS, by a program.
-/
import Derived.Test.YtokbiojkpldfeaaGreatG
import Derived.Test.YtokbiojkpldfeaaGreatSIn
import Derived.Test.YtokbiojkpldfeaaGreatProg
namespace Go.Proofs.YtokbiojkpldfeaaGreat.S
open Go Go.Proofs
set_option linter.unusedVariables false
set_option maxRecDepth 100000
abbrev Fn.gosem_cut_init : Nat := 2
abbrev Fn.law25_CommitRaw : Nat := 3
abbrev Fn.law18_TableNeeds : Nat := 4
abbrev Fn.law18_TableApart : Nat := 5
abbrev Fn.law18_TableBlocks : Nat := 6
abbrev Fn.law25_CommitRuns : Nat := 7
abbrev Fn.law25_Case_shape : Nat := 8
abbrev Fn.commit_New : Nat := 9
abbrev Fn.ref23_NewCommit : Nat := 10
abbrev Fn.commit_Commit_Next : Nat := 11
abbrev Fn.ref23_Commit_Next : Nat := 12
abbrev Fn.commit_Commit_End : Nat := 13
abbrev Fn.commit_Commit_Err : Nat := 14
abbrev Fn.commit_Commit_By : Nat := 15
abbrev Fn.commit_Commit_Tell : Nat := 16
abbrev Fn.ref23_Commit_Tell : Nat := 17
abbrev Fn.law18_TableRuns : Nat := 18
abbrev Fn.arena_Fresh : Nat := 19
abbrev Fn.law18_step : Nat := 20
abbrev Fn.law18_mine : Nat := 21
abbrev Fn.keep_Call_Place : Nat := 22
abbrev Fn.view_New : Nat := 23
abbrev Fn.view_Whole : Nat := 24
abbrev Fn.law18_call : Nat := 25
abbrev Fn.book_Same_api_Cell : Nat := 26
abbrev Fn.view_View_Cells : Nat := 27
abbrev Fn.book_Same_int : Nat := 28
abbrev Fn.view_View_Frees : Nat := 29
abbrev Fn.view_View_Depth : Nat := 30
abbrev Fn.view_View_Need : Nat := 31
abbrev Fn.view_View_Know : Nat := 32
abbrev Fn.view_View_Known : Nat := 33
abbrev Fn.arena_Blocks : Nat := 34
abbrev Fn.arena_Size : Nat := 35
abbrev Fn.arena_Lists : Nat := 36
abbrev Fn.law18_live : Nat := 37
abbrev Fn.mem_New : Nat := 38
abbrev Fn.commit_Commit_Writing : Nat := 39
abbrev Fn.mem_Mem_Do : Nat := 40
abbrev Fn.mem_Mem_Locks : Nat := 41
abbrev Fn.mem_Mem_Words : Nat := 42
abbrev Fn.commit_Commit_Stamp : Nat := 43
abbrev Fn.mem_Mem_Now : Nat := 44
abbrev Fn.ref1_Shape : Nat := 45
abbrev Fn.book_Within : Nat := 46
abbrev Fn.patience_New : Nat := 47
abbrev Fn.slices_Clone_api_Seen_api_Seen : Nat := 48
abbrev Fn.slices_Clone_api_Cell_api_Cell : Nat := 49
abbrev Fn.writes_Stripes : Nat := 50
abbrev Fn.commit_Commit_more : Nat := 51
abbrev Fn.ref23_begin : Nat := 52
abbrev Fn.ref7_Stripes : Nat := 53
abbrev Fn.patience_Patience_End : Nat := 54
abbrev Fn.patience_Patience_Err : Nat := 55
abbrev Fn.patience_Patience_By : Nat := 56
abbrev Fn.patience_Patience_Stopped : Nat := 57
abbrev Fn.commit_Commit_take : Nat := 58
abbrev Fn.commit_Commit_raise : Nat := 59
abbrev Fn.commit_Commit_proved : Nat := 60
abbrev Fn.commit_Commit_write : Nat := 61
abbrev Fn.commit_Commit_give : Nat := 62
abbrev Fn.commit_Commit_leave : Nat := 63
abbrev Fn.ref23_Step_failed : Nat := 64
abbrev Fn.ref23_Commit_locks : Nat := 65
abbrev Fn.ref23_Commit_out : Nat := 66
abbrev Fn.ref23_Commit_write : Nat := 67
abbrev Fn.ref23_Commit_look : Nat := 68
abbrev Fn.ref23_Commit_free : Nat := 69
abbrev Fn.table_Put : Nat := 70
abbrev Fn.table_Get : Nat := 71
abbrev Fn.table_All : Nat := 72
abbrev Fn.keep_Objects_Do : Nat := 73
abbrev Fn.law18_settle : Nat := 74
abbrev Fn.law18_all : Nat := 75
abbrev Fn.book_Same_api_Pair : Nat := 76
abbrev Fn.keep_Call_Which : Nat := 77
abbrev Fn.levels_New : Nat := 78
abbrev Fn.view_View_Size : Nat := 79
abbrev Fn.keep_Call_Key : Nat := 80
abbrev Fn.keep_Call_Val : Nat := 81
abbrev Fn.table_Del : Nat := 82
abbrev Fn.levels_Levels_Cells : Nat := 83
abbrev Fn.levels_Levels_Frees : Nat := 84
abbrev Fn.levels_Levels_Depth : Nat := 85
abbrev Fn.view_View_is : Nat := 86
abbrev Fn.arena_header : Nat := 87
abbrev Fn.arena_head : Nat := 88
abbrev Fn.slices_IndexFunc_api_Block_api_Block : Nat := 89
abbrev Fn.arena_Lists_1 : Nat := 90
abbrev Fn.slices_Contains_int_int : Nat := 91
abbrev Fn.mem_Held : Nat := 92
abbrev Fn.heap_New : Nat := 93
abbrev Fn.stripe_New : Nat := 94
abbrev Fn.clock_New : Nat := 95
abbrev Fn.epoch_New : Nat := 96
abbrev Fn.mem_Mem_do : Nat := 97
abbrev Fn.stripe_Table_All : Nat := 98
abbrev Fn.heap_Heap_All : Nat := 99
abbrev Fn.clock_Clock_Load : Nat := 100
abbrev Fn.ref1_Held : Nat := 101
abbrev Fn.stripe_Of : Nat := 102
abbrev Fn.slices_Sort_int_int : Nat := 103
abbrev Fn.slices_Compact_int_int : Nat := 104
abbrev Fn.ref1_Of : Nat := 105
abbrev Fn.patience_Patience_Stop : Nat := 106
abbrev Fn.commit_Commit_held : Nat := 107
abbrev Fn.commit_Commit_stop : Nat := 108
abbrev Fn.commit_Commit_begin : Nat := 109
abbrev Fn.commit_Commit_prove : Nat := 110
abbrev Fn.ref23_Step_held : Nat := 111
abbrev Fn.ref23_Commit_own : Nat := 112
abbrev Fn.draft_Do : Nat := 113
abbrev Fn.table_Put_1 : Nat := 114
abbrev Fn.table_open : Nat := 115
abbrev Fn.draft_Draft_OK : Nat := 116
abbrev Fn.table_made : Nat := 117
abbrev Fn.table_table_seek : Nat := 118
abbrev Fn.draft_Draft_Write : Nat := 119
abbrev Fn.table_table_grow : Nat := 120
abbrev Fn.draft_Draft_Alloc : Nat := 121
abbrev Fn.draft_Draft_Point : Nat := 122
abbrev Fn.table_Get_1 : Nat := 123
abbrev Fn.draft_Draft_Read : Nat := 124
abbrev Fn.table_All_1 : Nat := 125
abbrev Fn.table_table_each : Nat := 126
abbrev Fn.table_All_1_1 : Nat := 127
abbrev Fn.slices_SortFunc_api_Pair_api_Pair : Nat := 128
abbrev Fn.table_All_2 : Nat := 129
abbrev Fn.cmp_Compare_uint64 : Nat := 130
abbrev Fn.keep_Objects_Put : Nat := 131
abbrev Fn.keep_Objects_Del : Nat := 132
abbrev Fn.keep_Objects_Find : Nat := 133
abbrev Fn.keep_Objects_Count : Nat := 134
abbrev Fn.ref21_Apply : Nat := 135
abbrev Fn.arena_Give : Nat := 136
abbrev Fn.table_Len : Nat := 137
abbrev Fn.levels_fresh : Nat := 138
abbrev Fn.table_Del_1 : Nat := 139
abbrev Fn.draft_Draft_Free : Nat := 140
abbrev Fn.slices_Backward_levels_level_levels_level : Nat := 141
abbrev Fn.writes_New : Nat := 142
abbrev Fn.writes_Writes_Take : Nat := 143
abbrev Fn.writes_Writes_All : Nat := 144
abbrev Fn.slices_Index_int_int : Nat := 145
abbrev Fn.stripe_near : Nat := 146
abbrev Fn.heap_Heap_Load : Nat := 147
abbrev Fn.heap_Heap_Store : Nat := 148
abbrev Fn.stripe_Table_Load : Nat := 149
abbrev Fn.stripe_Table_Cas : Nat := 150
abbrev Fn.stripe_Table_Store : Nat := 151
abbrev Fn.clock_Clock_Cas : Nat := 152
abbrev Fn.epoch_Slots_Load : Nat := 153
abbrev Fn.epoch_Slots_Store : Nat := 154
abbrev Fn.slices_Clone_api_Lock_api_Lock : Nat := 155
abbrev Fn.slices_Clone_uint64_uint64 : Nat := 156
abbrev Fn.slices_pdqsortOrdered_int : Nat := 157
abbrev Fn.math_bits_Len : Nat := 158
abbrev Fn.patience_Patience_Waits : Nat := 159
abbrev Fn.slices_BinarySearch_int_int : Nat := 160
abbrev Fn.draft_of : Nat := 161
abbrev Fn.view_View_Read : Nat := 162
abbrev Fn.view_View_Take : Nat := 163
abbrev Fn.view_View_Free : Nat := 164
abbrev Fn.draft_Draft_Place : Nat := 165
abbrev Fn.draft_Draft_Fail : Nat := 166
abbrev Fn.table_chain : Nat := 167
abbrev Fn.draft_Draft_Step : Nat := 168
abbrev Fn.view_View_Write : Nat := 169
abbrev Fn.table_table_grow_1 : Nat := 170
abbrev Fn.arena_Alloc : Nat := 171
abbrev Fn.slices_pdqsortCmpFunc_api_Pair : Nat := 172
abbrev Fn.cmp_isNaN_uint64 : Nat := 173
abbrev Fn.ref7_Whole : Nat := 174
abbrev Fn.ref7_View_In : Nat := 175
abbrev Fn.arena_asked : Nat := 176
abbrev Fn.table_Len_1 : Nat := 177
abbrev Fn.arena_Free : Nat := 178
abbrev Fn.slices_Backward_levels_level_levels_level_1 : Nat := 179
abbrev Fn.writes_Writes_Put : Nat := 180
abbrev Fn.heap_Heap_is : Nat := 181
abbrev Fn.stripe_Table_is : Nat := 182
abbrev Fn.stripe_Table_may : Nat := 183
abbrev Fn.epoch_Slots_is : Nat := 184
abbrev Fn.slices_insertionSortOrdered_int : Nat := 185
abbrev Fn.slices_heapSortOrdered_int : Nat := 186
abbrev Fn.slices_breakPatternsOrdered_int : Nat := 187
abbrev Fn.slices_choosePivotOrdered_int : Nat := 188
abbrev Fn.slices_reverseRangeOrdered_int : Nat := 189
abbrev Fn.slices_partialInsertionSortOrdered_int : Nat := 190
abbrev Fn.cmp_Less_int : Nat := 191
abbrev Fn.slices_partitionEqualOrdered_int : Nat := 192
abbrev Fn.slices_partitionOrdered_int : Nat := 193
abbrev Fn.math_bits_Len32 : Nat := 194
abbrev Fn.math_bits_Len64 : Nat := 195
abbrev Fn.slices_isNaN_int : Nat := 196
abbrev Fn.levels_Levels_Get : Nat := 197
abbrev Fn.levels_Levels_Take : Nat := 198
abbrev Fn.levels_Levels_Free : Nat := 199
abbrev Fn.draft_Draft_Name : Nat := 200
abbrev Fn.levels_Levels_Put : Nat := 201
abbrev Fn.arena_Class : Nat := 202
abbrev Fn.arena_again : Nat := 203
abbrev Fn.arena_grown : Nat := 204
abbrev Fn.slices_insertionSortCmpFunc_api_Pair : Nat := 205
abbrev Fn.slices_heapSortCmpFunc_api_Pair : Nat := 206
abbrev Fn.slices_breakPatternsCmpFunc_api_Pair : Nat := 207
abbrev Fn.slices_choosePivotCmpFunc_api_Pair : Nat := 208
abbrev Fn.slices_reverseRangeCmpFunc_api_Pair : Nat := 209
abbrev Fn.slices_partialInsertionSortCmpFunc_api_Pair : Nat := 210
abbrev Fn.slices_partitionEqualCmpFunc_api_Pair : Nat := 211
abbrev Fn.slices_partitionCmpFunc_api_Pair : Nat := 212
abbrev Fn.ref7_NewView : Nat := 213
abbrev Fn.writes_Writes_find : Nat := 214
abbrev Fn.lock_Is : Nat := 215
abbrev Fn.slices_siftDownOrdered_int : Nat := 216
abbrev Fn.slices_nextPowerOfTwo : Nat := 217
abbrev Fn.slices_xorshift_Next : Nat := 218
abbrev Fn.slices_medianAdjacentOrdered_int : Nat := 219
abbrev Fn.slices_medianOrdered_int : Nat := 220
abbrev Fn.cmp_isNaN_int : Nat := 221
abbrev Fn.writes_Writes_Get : Nat := 222
abbrev Fn.levels_Levels_in : Nat := 223
abbrev Fn.levels_Levels_Room : Nat := 224
abbrev Fn.slices_siftDownCmpFunc_api_Pair : Nat := 225
abbrev Fn.slices_medianAdjacentCmpFunc_api_Pair : Nat := 226
abbrev Fn.slices_medianCmpFunc_api_Pair : Nat := 227
abbrev Fn.ref7_NewLevels : Nat := 228
abbrev Fn.slices_IndexFunc_api_Cell_api_Cell : Nat := 229
abbrev Fn.writes_Writes_find_1 : Nat := 230
abbrev Fn.lock_owns : Nat := 231
abbrev Fn.slices_order2Ordered_int : Nat := 232
abbrev Fn.writes_Writes_Len : Nat := 233
abbrev Fn.slices_order2CmpFunc_api_Pair : Nat := 234

/-- law18_TableNeeds -/
def S_law18_TableNeeds (a0 a1 : Value) (K : KV) : World → Prop :=
  boxW a1 (fun x1 => CP Tryz.prog Fn.law18_TableRuns [] (fun x2 => notW x2 (fun x3 => condP x3 (K (Value.bool false)) (CP Tryz.prog Fn.arena_Fresh [(Value.int .i64 256)] (fun x4 => buildW [(Value.slice none 0 0), (Value.slice none 0 0), (Value.slice none 0 0), (Value.slice none 0 0), (Value.slice none 0 0), (Value.slice none 0 0), (Value.slice none 0 0), (Value.slice none 0 0)] [] (fun x5 => boxW x5 (fun x6 => loopW2 x4 (Value.int .i64 0) (fun J1 x7 x8 => lenW a0 (fun x9 => binIntW .lss x8 x9 (fun x10 => gW x10 true (fun K => K x8) (fun x11 => gW x10 true (fun K => binIntW .lss x11 (Value.int .i64 20) K) (fun x12 => pickW x10 x12 (Value.bool false) (fun x13 => condP x13 (idxW 4 a0 x8 (fun x14 => loadNW 4 x14 (fun x15 => CP Tryz.prog Fn.law18_mine [x15] (fun x16 => CP Tryz.prog Fn.law18_step [x7, x6, x16] (fun x17 => extractW 0 x17 (fun x18 => extractW 1 x17 (fun x19 => notW x19 (fun x20 => condP x20 (K (Value.bool false)) (binIntW .add x8 (Value.int .i64 1) (fun x21 => J1 x18 x21)))))))))) (loadNW 4 x1 (fun x22 => CP Tryz.prog Fn.law18_mine [x22] (fun x23 => storeW 4 x1 x23 (fun _ => loadNW 4 x1 (fun x25 => CP Tryz.prog Fn.keep_Call_Place [x25] (fun x26 => binIntW .add (Value.int .i64 6) x26 (fun x27 => lenW x7 (fun x28 => CP Tryz.prog Fn.view_New [x28, (Value.int .i64 96)] (fun x29 => CP Tryz.prog Fn.view_Whole [x7, (Value.int .i64 96)] (fun x30 => eqNilW .eql x29 (Value.pointer none) (fun x31 => gW x31 false (fun K => K x30) (fun x32 => gW x31 false (fun K => eqNilW .eql x32 (Value.pointer none) K) (fun x33 => pickW x31 (Value.bool true) x33 (fun x34 => condP x34 (K (Value.bool false)) (loadNW 4 x1 (fun x35 => CP Tryz.prog Fn.law18_call [x30, x27, x35] (fun x36 => extractW 0 x36 (fun x37 => extractW 1 x36 (fun x38 => newW #[(Value.int .i64 0), (Value.int .u64 0)] (fun x39 => storeW 2 x39 x37 (fun _ => loopW1 (Value.int .i64 0) (fun J2 x41 => binIntW .lss x41 (Value.int .i64 256) (fun x42 => condP x42 (loadNW 4 x1 (fun x43 => CP Tryz.prog Fn.law18_call [x29, x27, x43] (fun x44 => extractW 0 x44 (fun x45 => extractW 1 x44 (fun x46 => newW #[(Value.int .i64 0), (Value.int .u64 0)] (fun x47 => storeW 2 x47 x45 (fun _ => binIntW .neq x46 (Value.int .i64 11) (fun x49 => condP x49 (loadNW 2 x47 (fun x50 => loadNW 2 x39 (fun x51 => eqAggW [.i .i64, .i .u64] .eql x50 x51 (fun x52 => gW x52 true (fun K => K x46) (fun x53 => gW x52 true (fun K => K x38) (fun x54 => gW x52 true (fun K => binIntW .eql x53 x54 K) (fun x55 => pickW x52 x55 (Value.bool false) (fun x56 => gW x56 true (fun K => K x29) (fun x57 => gW x56 true (fun K => CP Tryz.prog Fn.view_View_Cells [x57] K) (fun x58 => gW x56 true (fun K => K x30) (fun x59 => gW x56 true (fun K => CP Tryz.prog Fn.view_View_Cells [x59] K) (fun x60 => gW x56 true (fun K => CP Tryz.prog Fn.book_Same_api_Cell [x58, x60] K) (fun x61 => pickW x56 x61 (Value.bool false) (fun x62 => gW x62 true (fun K => K x29) (fun x63 => gW x62 true (fun K => CP Tryz.prog Fn.view_View_Frees [x63] K) (fun x64 => gW x62 true (fun K => K x30) (fun x65 => gW x62 true (fun K => CP Tryz.prog Fn.view_View_Frees [x65] K) (fun x66 => gW x62 true (fun K => CP Tryz.prog Fn.book_Same_int [x64, x66] K) (fun x67 => pickW x62 x67 (Value.bool false) (fun x68 => gW x68 true (fun K => K x29) (fun x69 => gW x68 true (fun K => CP Tryz.prog Fn.view_View_Depth [x69] K) (fun x70 => gW x68 true (fun K => binIntW .eql x70 (Value.int .i64 1) K) (fun x71 => pickW x68 x71 (Value.bool false) (fun x72 => K x72)))))))))))))))))))))))) (CP Tryz.prog Fn.view_View_Need [x29] (fun x73 => binIntW .lss x73 (Value.int .i64 1) (fun x74 => gW x74 false (fun K => K x73) (fun x75 => gW x74 false (fun K => K x7) (fun x76 => gW x74 false (fun K => lenW x76 K) (fun x77 => gW x74 false (fun K => binIntW .geq x75 x77 K) (fun x78 => pickW x74 (Value.bool true) x78 (fun x79 => gW x79 false (fun K => K x29) (fun x80 => gW x79 false (fun K => CP Tryz.prog Fn.view_View_Cells [x80] K) (fun x81 => gW x79 false (fun K => lenW x81 K) (fun x82 => gW x79 false (fun K => binIntW .neq x82 (Value.int .i64 0) K) (fun x83 => pickW x79 (Value.bool true) x83 (fun x84 => gW x84 false (fun K => K x29) (fun x85 => gW x84 false (fun K => CP Tryz.prog Fn.view_View_Frees [x85] K) (fun x86 => gW x84 false (fun K => lenW x86 K) (fun x87 => gW x84 false (fun K => binIntW .neq x87 (Value.int .i64 0) K) (fun x88 => pickW x84 (Value.bool true) x88 (fun x89 => gW x89 false (fun K => K x29) (fun x90 => gW x89 false (fun K => CP Tryz.prog Fn.view_View_Depth [x90] K) (fun x91 => gW x89 false (fun K => binIntW .neq x91 (Value.int .i64 1) K) (fun x92 => pickW x89 (Value.bool true) x92 (fun x93 => gW x93 false (fun K => K x29) (fun x94 => gW x93 false (fun K => K x73) (fun x95 => gW x93 false (fun K => K x7) (fun x96 => gW x93 false (fun K => K x73) (fun x97 => gW x93 false (fun K => idxW 1 x96 x97 K) (fun x98 => gW x93 false (fun K => load1W x98 K) (fun x99 => gW x93 false (fun K => CP Tryz.prog Fn.view_View_Know [x94, x95, x99] K) (fun x100 => gW x93 false (fun K => binIntW .neq x100 (Value.int .i64 0) K) (fun x101 => pickW x93 (Value.bool true) x101 (fun x102 => gW x102 false (fun K => K x29) (fun x103 => gW x102 false (fun K => CP Tryz.prog Fn.view_View_Known [x103] K) (fun x104 => gW x102 false (fun K => lenW x104 K) (fun x105 => gW x102 false (fun K => K x41) (fun x106 => gW x102 false (fun K => binIntW .add x106 (Value.int .i64 1) K) (fun x107 => gW x102 false (fun K => binIntW .neq x105 x107 K) (fun x108 => pickW x102 (Value.bool true) x108 (fun x109 => condP x109 (K (Value.bool false)) (binIntW .add x41 (Value.int .i64 1) (fun x110 => J2 x110)))))))))))))))))))))))))))))))))))))))))))))))) (K (Value.bool false))))))))))))))))))))))))))))))))))))))

/-- law18_TableApart -/
def S_law18_TableApart (a0 a1 a2 : Value) (K : KV) : World → Prop :=
  boxW a2 (fun x1 => CP Tryz.prog Fn.law18_TableRuns [] (fun x2 => notW x2 (fun x3 => condP x3 (K (Value.bool false)) (CP Tryz.prog Fn.arena_Fresh [(Value.int .i64 256)] (fun x4 => buildW [(Value.slice none 0 0), (Value.slice none 0 0), (Value.slice none 0 0), (Value.slice none 0 0), (Value.slice none 0 0), (Value.slice none 0 0), (Value.slice none 0 0), (Value.slice none 0 0)] [] (fun x5 => boxW x5 (fun x6 => makeSliceW 1 [(Value.bool false)] (Value.int .i64 257) (Value.int .i64 257) (fun x7 => loopW2 x4 (Value.int .i64 0) (fun J1 x8 x9 => lenW a0 (fun x10 => lenW a1 (fun x11 => binIntW .add x10 x11 (fun x12 => binIntW .lss x9 x12 (fun x13 => gW x13 true (fun K => K x9) (fun x14 => gW x13 true (fun K => binIntW .lss x14 (Value.int .i64 24) K) (fun x15 => pickW x13 x15 (Value.bool false) (fun x16 => condP x16 (buildW [(Value.int .i64 0), (Value.int .i64 0), (Value.int .u64 0), (Value.int .u64 0)] [] (fun x17 => newW #[(Value.int .i64 0), (Value.int .i64 0), (Value.int .u64 0), (Value.int .u64 0)] (fun x18 => storeW 4 x18 x17 (fun _ => lenW a0 (fun x20 => binIntW .lss x9 x20 (fun x21 => joinW0 (loadNW 4 x18 (fun x22 => CP Tryz.prog Fn.law18_step [x8, x6, x22] (fun x23 => extractW 0 x23 (fun x24 => extractW 1 x23 (fun x25 => notW x25 (fun x26 => condP x26 (K (Value.bool false)) (CP Tryz.prog Fn.arena_Blocks [x24] (fun x27 => extractW 0 x27 (fun x28 => extractW 1 x27 (fun x29 => binIntW .neq x29 (Value.int .i64 0) (fun x30 => condP x30 (K (Value.bool false)) (loopW1 (Value.int .i64 0) (fun J2 x31 => lenW a0 (fun x32 => binIntW .lss x9 x32 (fun x33 => gW x33 true (fun K => K x31) (fun x34 => gW x33 true (fun K => K x28) (fun x35 => gW x33 true (fun K => lenW x35 K) (fun x36 => gW x33 true (fun K => binIntW .lss x34 x36 K) (fun x37 => pickW x33 x37 (Value.bool false) (fun x38 => condP x38 (idxW 3 x28 x31 (fun x39 => addW 0 x39 (fun x40 => load1W x40 (fun x41 => loopW1 x41 (fun J3 x42 => drewW (idxW 3 x28 x31 (fun x43 => addW 0 x43 (fun x44 => load1W x44 (fun x45 => idxW 3 x28 x31 (fun x46 => addW 1 x46 (fun x47 => load1W x47 (fun x48 => CP Tryz.prog Fn.arena_Size [x48] (fun x49 => andP (andP (trueP) (andP (load1W x44 (fun v => eqP v x45)) (trueP))) (binIntW .add x45 x49 (fun x50 => binIntW .lss x42 x50 (fun x51 => gW x51 true (fun K => K x42) (fun x52 => gW x51 true (fun K => K x7) (fun x53 => gW x51 true (fun K => lenW x53 K) (fun x54 => gW x51 true (fun K => binIntW .lss x52 x54 K) (fun x55 => pickW x51 x55 (Value.bool false) (fun x56 => condP x56 (idxW 3 x28 x31 (fun x57 => addW 2 x57 (fun x58 => load1W x58 (fun x59 => idxW 1 x7 x42 (fun x60 => storeW 1 x60 x59 (fun _ => binIntW .add x42 (Value.int .i64 1) (fun x62 => J3 x62))))))) (binIntW .add x31 (Value.int .i64 1) (fun x63 => J2 x63))))))))))))))))))))))) (binIntW .add x9 (Value.int .i64 1) (fun x64 => J1 x24 x64)))))))))))))))))))))) (fun j1 => condP x21 (idxW 4 a0 x9 (fun x65 => loadNW 4 x65 (fun x66 => CP Tryz.prog Fn.law18_mine [x66] (fun x67 => storeW 4 x18 x67 (fun _ => addW 1 x18 (fun x69 => storeW 1 x69 (Value.int .i64 0) (fun _ => j1))))))) (lenW a0 (fun x71 => binIntW .sub x9 x71 (fun x72 => idxW 4 a1 x72 (fun x73 => loadNW 4 x73 (fun x74 => CP Tryz.prog Fn.law18_mine [x74] (fun x75 => storeW 4 x18 x75 (fun _ => addW 1 x18 (fun x77 => storeW 1 x77 (Value.int .i64 1) (fun _ => j1)))))))))))))))) (loadNW 4 x1 (fun x79 => CP Tryz.prog Fn.law18_mine [x79] (fun x80 => storeW 4 x1 x80 (fun _ => addW 1 x1 (fun x82 => storeW 1 x82 (Value.int .i64 1) (fun _ => loadNW 4 x1 (fun x84 => CP Tryz.prog Fn.keep_Call_Place [x84] (fun x85 => binIntW .add (Value.int .i64 6) x85 (fun x86 => binIntW .sub x86 (Value.int .i64 1) (fun x87 => idxW 1 x7 x87 (fun x88 => storeW 1 x88 (Value.bool true) (fun _ => lenW x8 (fun x90 => CP Tryz.prog Fn.view_New [x90, (Value.int .i64 96)] (fun x91 => eqNilW .eql x91 (Value.pointer none) (fun x92 => condP x92 (K (Value.bool false)) (joinW0 (CP Tryz.prog Fn.view_View_Cells [x91] (fun x93 => loopW1 (Value.int .i64 0) (fun J4 x94 => lenW x93 (fun x95 => binIntW .lss x94 x95 (fun x96 => condP x96 (idxW 2 x93 x94 (fun x97 => addW 0 x97 (fun x98 => load1W x98 (fun x99 => binIntW .lss x99 (Value.int .i64 1) (fun x100 => gW x100 false (fun K => K x93) (fun x101 => gW x100 false (fun K => K x94) (fun x102 => gW x100 false (fun K => idxW 2 x101 x102 K) (fun x103 => gW x100 false (fun K => addW 0 x103 K) (fun x104 => gW x100 false (fun K => load1W x104 K) (fun x105 => gW x100 false (fun K => K x7) (fun x106 => gW x100 false (fun K => lenW x106 K) (fun x107 => gW x100 false (fun K => binIntW .geq x105 x107 K) (fun x108 => pickW x100 (Value.bool true) x108 (fun x109 => gW x109 false (fun K => K x7) (fun x110 => gW x109 false (fun K => K x93) (fun x111 => gW x109 false (fun K => K x94) (fun x112 => gW x109 false (fun K => idxW 2 x111 x112 K) (fun x113 => gW x109 false (fun K => addW 0 x113 K) (fun x114 => gW x109 false (fun K => load1W x114 K) (fun x115 => gW x109 false (fun K => idxW 1 x110 x115 K) (fun x116 => gW x109 false (fun K => load1W x116 K) (fun x117 => pickW x109 (Value.bool true) x117 (fun x118 => condP x118 (K (Value.bool false)) (binIntW .add x94 (Value.int .i64 1) (fun x119 => J4 x119))))))))))))))))))))))))) (K (Value.bool true))))))) (fun j2 => loopW1 (Value.int .i64 0) (fun J5 x120 => binIntW .lss x120 (Value.int .i64 256) (fun x121 => condP x121 (loadNW 4 x1 (fun x122 => CP Tryz.prog Fn.law18_call [x91, x86, x122] (fun x123 => extractW 0 x123 (fun x124 => extractW 1 x123 (fun x125 => newW #[(Value.int .i64 0), (Value.int .u64 0)] (fun x126 => storeW 2 x126 x124 (fun _ => binIntW .neq x125 (Value.int .i64 11) (fun x128 => condP x128 (j2) (CP Tryz.prog Fn.view_View_Need [x91] (fun x129 => binIntW .lss x129 (Value.int .i64 1) (fun x130 => gW x130 false (fun K => K x129) (fun x131 => gW x130 false (fun K => K x8) (fun x132 => gW x130 false (fun K => lenW x132 K) (fun x133 => gW x130 false (fun K => binIntW .geq x131 x133 K) (fun x134 => pickW x130 (Value.bool true) x134 (fun x135 => gW x135 false (fun K => K x7) (fun x136 => gW x135 false (fun K => K x129) (fun x137 => gW x135 false (fun K => idxW 1 x136 x137 K) (fun x138 => gW x135 false (fun K => load1W x138 K) (fun x139 => pickW x135 (Value.bool true) x139 (fun x140 => gW x140 false (fun K => K x91) (fun x141 => gW x140 false (fun K => K x129) (fun x142 => gW x140 false (fun K => K x8) (fun x143 => gW x140 false (fun K => K x129) (fun x144 => gW x140 false (fun K => idxW 1 x143 x144 K) (fun x145 => gW x140 false (fun K => load1W x145 K) (fun x146 => gW x140 false (fun K => CP Tryz.prog Fn.view_View_Know [x141, x142, x146] K) (fun x147 => gW x140 false (fun K => binIntW .neq x147 (Value.int .i64 0) K) (fun x148 => pickW x140 (Value.bool true) x148 (fun x149 => condP x149 (K (Value.bool false)) (binIntW .add x120 (Value.int .i64 1) (fun x150 => J5 x150)))))))))))))))))))))))))))))))) (j2))))))))))))))))))))))))))))))))))))

/-- law18_TableBlocks -/
def S_law18_TableBlocks (a0 a1 : Value) (K : KV) : World → Prop :=
  CP Tryz.prog Fn.law18_TableRuns [] (fun x1 => notW x1 (fun x2 => condP x2 (K (Value.bool false)) (CP Tryz.prog Fn.arena_Fresh [(Value.int .i64 256)] (fun x3 => buildW [(Value.slice none 0 0), (Value.slice none 0 0), (Value.slice none 0 0), (Value.slice none 0 0), (Value.slice none 0 0), (Value.slice none 0 0), (Value.slice none 0 0), (Value.slice none 0 0)] [] (fun x4 => boxW x4 (fun x5 => loopW2 x3 (Value.int .i64 0) (fun J1 x6 x7 => binIntW .rem a1 (Value.int .u8 3) (fun x8 => convW .i64 x8 (fun x9 => binIntW .leq x7 x9 (fun x10 => condP x10 (loopW2 x6 (Value.int .i64 0) (fun J2 x11 x12 => lenW a0 (fun x13 => binIntW .lss x12 x13 (fun x14 => gW x14 true (fun K => K x12) (fun x15 => gW x14 true (fun K => binIntW .lss x15 (Value.int .i64 20) K) (fun x16 => pickW x14 x16 (Value.bool false) (fun x17 => condP x17 (idxW 4 a0 x12 (fun x18 => loadNW 4 x18 (fun x19 => CP Tryz.prog Fn.law18_mine [x19] (fun x20 => newW #[(Value.int .i64 0), (Value.int .i64 0), (Value.int .u64 0), (Value.int .u64 0)] (fun x21 => storeW 4 x21 x20 (fun _ => addW 1 x21 (fun x23 => storeW 1 x23 (Value.int .i64 0) (fun _ => loadNW 4 x21 (fun x25 => CP Tryz.prog Fn.law18_step [x11, x5, x25] (fun x26 => extractW 0 x26 (fun x27 => extractW 1 x26 (fun x28 => notW x28 (fun x29 => condP x29 (K (Value.bool false)) (drewW (loadNW 4 x21 (fun x30 => nilW x5 (fun x31 => addW 0 x31 (fun x32 => CP Tryz.prog Fn.keep_Call_Place [x30] (fun x33 => andP (andP (trueP) (trueP)) (idxArrW 8 1 x32 x33 (fun x34 => load1W x34 (fun x35 => lenW x35 (fun x36 => CP Tryz.prog Fn.arena_Lists [x27] (fun x37 => extractW 0 x37 (fun x38 => extractW 1 x37 (fun x39 => binIntW .neq x39 (Value.int .i64 0) (fun x40 => gW x40 false (fun K => K x27) (fun x41 => gW x40 false (fun K => CP Tryz.prog Fn.law18_live [x41] K) (fun x42 => gW x40 false (fun K => K x36) (fun x43 => gW x40 false (fun K => binIntW .mul (Value.int .i64 2) x43 K) (fun x44 => gW x40 false (fun K => binIntW .add x44 (Value.int .i64 2) K) (fun x45 => gW x40 false (fun K => binIntW .gtr x42 x45 K) (fun x46 => pickW x40 (Value.bool true) x46 (fun x47 => condP x47 (K (Value.bool false)) (binIntW .add x12 (Value.int .i64 1) (fun x48 => J2 x27 x48)))))))))))))))))))))))))))))))))))) (binIntW .add x7 (Value.int .i64 1) (fun x49 => J1 x11 x49))))))))) (K (Value.bool true))))))))))))

/-- law18_TableRuns -/
def S_law18_TableRuns (K : KV) : World → Prop :=
  CP Tryz.prog Fn.arena_Fresh [(Value.int .i64 100)] (fun x1 => CP Tryz.prog Fn.view_Whole [x1, (Value.int .i64 96)] (fun x2 => eqNilW .eql x2 (Value.pointer none) (fun x3 => condP x3 (K (Value.bool false)) (CP Tryz.prog Fn.table_Put [x2, (Value.int .i64 6), (Value.int .u64 9), (Value.int .u64 1)] (fun x4 => extractW 0 x4 (fun x5 => extractW 1 x4 (fun x6 => CP Tryz.prog Fn.table_Put [x2, (Value.int .i64 6), (Value.int .u64 9), (Value.int .u64 2)] (fun x7 => extractW 0 x7 (fun x8 => extractW 1 x7 (fun x9 => CP Tryz.prog Fn.table_Get [x2, (Value.int .i64 6), (Value.int .u64 9)] (fun x10 => extractW 0 x10 (fun x11 => extractW 1 x10 (fun x12 => extractW 2 x10 (fun x13 => CP Tryz.prog Fn.table_All [x2, (Value.int .i64 6)] (fun x14 => extractW 0 x14 (fun x15 => extractW 1 x14 (fun x16 => CP Tryz.prog Fn.table_Get [x2, (Value.int .i64 5), (Value.int .u64 9)] (fun x17 => extractW 0 x17 (fun x18 => extractW 1 x17 (fun x19 => extractW 2 x17 (fun x20 => gW x5 true (fun K => K x6) (fun x21 => gW x5 true (fun K => binIntW .eql x21 (Value.int .i64 0) K) (fun x22 => pickW x5 x22 (Value.bool false) (fun x23 => gW x23 true (fun K => K x8) (fun x24 => gW x23 true (fun K => notW x24 K) (fun x25 => pickW x23 x25 (Value.bool false) (fun x26 => gW x26 true (fun K => K x9) (fun x27 => gW x26 true (fun K => binIntW .eql x27 (Value.int .i64 0) K) (fun x28 => pickW x26 x28 (Value.bool false) (fun x29 => gW x29 true (fun K => K x11) (fun x30 => gW x29 true (fun K => binIntW .eql x30 (Value.int .u64 2) K) (fun x31 => pickW x29 x31 (Value.bool false) (fun x32 => gW x32 true (fun K => K x12) (fun x33 => pickW x32 x33 (Value.bool false) (fun x34 => gW x34 true (fun K => K x13) (fun x35 => gW x34 true (fun K => binIntW .eql x35 (Value.int .i64 0) K) (fun x36 => pickW x34 x36 (Value.bool false) (fun x37 => gW x37 true (fun K => K x16) (fun x38 => gW x37 true (fun K => binIntW .eql x38 (Value.int .i64 0) K) (fun x39 => pickW x37 x39 (Value.bool false) (fun x40 => gW x40 true (fun K => K x15) (fun x41 => gW x40 true (fun K => lenW x41 K) (fun x42 => gW x40 true (fun K => binIntW .eql x42 (Value.int .i64 1) K) (fun x43 => pickW x40 x43 (Value.bool false) (fun x44 => gW x44 true (fun K => K x15) (fun x45 => gW x44 true (fun K => idxW 2 x45 (Value.int .i64 0) K) (fun x46 => gW x44 true (fun K => loadNW 2 x46 K) (fun x47 => gW x44 true (fun K => buildW [(Value.int .u64 0), (Value.int .u64 0)] [(0, 1, (Value.int .u64 9)), (1, 1, (Value.int .u64 2))] K) (fun x48 => gW x44 true (fun K => eqAggW [.i .u64, .i .u64] .eql x47 x48 K) (fun x49 => pickW x44 x49 (Value.bool false) (fun x50 => gW x50 true (fun K => K x20) (fun x51 => gW x50 true (fun K => binIntW .eql x51 (Value.int .i64 2) K) (fun x52 => pickW x50 x52 (Value.bool false) (fun x53 => K x53))))))))))))))))))))))))))))))))))))))))))))))))))))))

/-- arena_Fresh -/
def S_arena_Fresh (a0 : Value) (K : KV) : World → Prop :=
  minW a0 [(Value.int .i64 256)] (fun x1 => maxW (Value.int .i64 32) [x1] (fun x2 => makeSliceW 8 [(Value.int .u64 0)] x2 x2 (fun x3 => idxW 1 x3 (Value.int .i64 5) (fun x4 => storeW 1 x4 (Value.int .u64 14) (fun _ => K x3)))))

/-- law18_step -/
def S_law18_step (a0 a1 a2 : Value) (K : KV) : World → Prop :=
  boxW a2 (fun x1 => CP Tryz.prog Fn.view_Whole [a0, (Value.int .i64 96)] (fun x2 => eqNilW .eql x2 (Value.pointer none) (fun x3 => condP x3 (K (Value.tuple #[a0, (Value.bool false)])) (loadNW 4 x1 (fun x4 => CP Tryz.prog Fn.keep_Call_Place [x4] (fun x5 => binIntW .add (Value.int .i64 6) x5 (fun x6 => loadNW 4 x1 (fun x7 => CP Tryz.prog Fn.law18_call [x2, x6, x7] (fun x8 => extractW 0 x8 (fun x9 => extractW 1 x8 (fun x10 => newW #[(Value.int .i64 0), (Value.int .u64 0)] (fun x11 => storeW 2 x11 x9 (fun _ => binIntW .eql x10 (Value.int .i64 4) (fun x13 => gW x13 true (fun K => K a0) (fun x14 => gW x13 true (fun K => lenW x14 K) (fun x15 => gW x13 true (fun K => binIntW .gtr x15 (Value.int .i64 5) K) (fun x16 => pickW x13 x16 (Value.bool false) (fun x17 => gW x17 true (fun K => K a0) (fun x18 => gW x17 true (fun K => idxW 1 x18 (Value.int .i64 5) K) (fun x19 => gW x17 true (fun K => load1W x19 K) (fun x20 => gW x17 true (fun K => binIntW .add x20 (Value.int .u64 40) K) (fun x21 => gW x17 true (fun K => K a0) (fun x22 => gW x17 true (fun K => lenW x22 K) (fun x23 => gW x17 true (fun K => convW .u64 x23 K) (fun x24 => gW x17 true (fun K => binIntW .gtr x21 x24 K) (fun x25 => pickW x17 x25 (Value.bool false) (fun x26 => condP x26 (CP Tryz.prog Fn.view_View_Cells [x2] (fun x27 => lenW x27 (fun x28 => binIntW .eql x28 (Value.int .i64 0) (fun x29 => gW x29 true (fun K => K x2) (fun x30 => gW x29 true (fun K => CP Tryz.prog Fn.view_View_Frees [x30] K) (fun x31 => gW x29 true (fun K => lenW x31 K) (fun x32 => gW x29 true (fun K => binIntW .eql x32 (Value.int .i64 0) K) (fun x33 => pickW x29 x33 (Value.bool false) (fun x34 => gW x34 true (fun K => K x2) (fun x35 => gW x34 true (fun K => CP Tryz.prog Fn.view_View_Depth [x35] K) (fun x36 => gW x34 true (fun K => binIntW .eql x36 (Value.int .i64 1) K) (fun x37 => pickW x34 x37 (Value.bool false) (fun x38 => K (Value.tuple #[a0, x38])))))))))))))) (loadNW 4 x1 (fun x39 => CP Tryz.prog Fn.keep_Objects_Do [a1, x39] (fun x40 => extractW 0 x40 (fun x41 => extractW 1 x40 (fun x42 => newW #[(Value.int .i64 0), (Value.int .u64 0)] (fun x43 => storeW 2 x43 x41 (fun _ => binIntW .neq x10 (Value.int .i64 0) (fun x45 => gW x45 false (fun K => K x42) (fun x46 => gW x45 false (fun K => K x46) (fun x47 => gW x47 true (fun K => loadNW 2 x11 K) (fun x48 => gW x47 true (fun K => loadNW 2 x43 K) (fun x49 => gW x47 true (fun K => eqAggW [.i .i64, .i .u64] .neq x48 x49 K) (fun x50 => gW x45 false (fun K => pickW x47 x50 (Value.bool false) K) (fun x51 => pickW x45 (Value.bool true) x51 (fun x52 => gW x52 false (fun K => K x42) (fun x53 => gW x52 false (fun K => notW x53 K) (fun x54 => gW x52 false (fun K => K x54) (fun x55 => gW x55 true (fun K => loadNW 2 x11 K) (fun x56 => gW x55 true (fun K => buildW [(Value.int .i64 0), (Value.int .u64 0)] [] K) (fun x57 => gW x55 true (fun K => eqAggW [.i .i64, .i .u64] .neq x56 x57 K) (fun x58 => gW x52 false (fun K => pickW x55 x58 (Value.bool false) K) (fun x59 => pickW x52 (Value.bool true) x59 (fun x60 => gW x60 false (fun K => K x2) (fun x61 => gW x60 false (fun K => CP Tryz.prog Fn.view_View_Depth [x61] K) (fun x62 => gW x60 false (fun K => binIntW .neq x62 (Value.int .i64 1) K) (fun x63 => pickW x60 (Value.bool true) x63 (fun x64 => condP x64 (K (Value.tuple #[a0, (Value.bool false)])) (CP Tryz.prog Fn.law18_settle [a0, x2] (fun x65 => extractW 0 x65 (fun x66 => extractW 1 x65 (fun x67 => CP Tryz.prog Fn.view_Whole [x66, (Value.int .i64 96)] (fun x68 => notW x67 (fun x69 => gW x69 false (fun K => K x68) (fun x70 => gW x69 false (fun K => eqNilW .eql x70 (Value.pointer none) K) (fun x71 => pickW x69 (Value.bool true) x71 (fun x72 => condP x72 (K (Value.tuple #[x66, (Value.bool false)])) (CP Tryz.prog Fn.law18_all [x68, x6] (fun x73 => extractW 0 x73 (fun x74 => extractW 1 x73 (fun x75 => drewW (binIntW .eql x75 (Value.int .i64 0) (fun x76 => gW x76 true (fun K => K x74) (fun x77 => gW x76 true (fun K => K a1) (fun x78 => gW x76 true (fun K => loadNW 4 x1 K) (fun x79 => gW x76 true (fun K => nilW x78 K) (fun x80 => gW x76 true (fun K => addW 0 x80 K) (fun x81 => gW x76 true (fun K => CP Tryz.prog Fn.keep_Call_Place [x79] K) (fun x82 => andP (andP (trueP) (trueP)) (gW x76 true (fun K => idxArrW 8 1 x81 x82 K) (fun x83 => gW x76 true (fun K => load1W x83 K) (fun x84 => gW x76 true (fun K => CP Tryz.prog Fn.book_Same_api_Pair [x77, x84] K) (fun x85 => andP (andP (trueP) (trueP)) (pickW x76 x85 (Value.bool false) (fun x86 => gW x86 true (fun K => K x68) (fun x87 => gW x86 true (fun K => CP Tryz.prog Fn.view_View_Cells [x87] K) (fun x88 => andP (trueP) (gW x86 true (fun K => lenW x88 K) (fun x89 => gW x86 true (fun K => binIntW .eql x89 (Value.int .i64 0) K) (fun x90 => pickW x86 x90 (Value.bool false) (fun x91 => K (Value.tuple #[x66, x91]))))))))))))))))))))))))))))))))))))))))))))))))))))))))))))))))))))))))))))))))))))))))

/-- law18_mine -/
def S_law18_mine (a0 : Value) (K : KV) : World → Prop :=
  boxW a0 (fun x1 => newW #[(Value.int .i64 0), (Value.int .i64 0), (Value.int .u64 0), (Value.int .u64 0)] (fun x2 => addW 0 x1 (fun x3 => load1W x3 (fun x4 => CP Tryz.prog Fn.book_Within [x4, (Value.int .i64 4), (Value.int .i64 6)] (fun x5 => addW 0 x1 (fun x6 => storeW 1 x6 x5 (fun _ => loadNW 4 x1 (fun x8 => storeW 4 x2 x8 (fun _ => loadNW 4 x2 (fun x10 => K x10))))))))))

/-- view_New -/
def S_view_New (a0 a1 : Value) (K : KV) : World → Prop :=
  drewW (minW a0 [(Value.int .i64 256)] (fun x1 => maxW (Value.int .i64 32) [x1] (fun x2 => andP (makeSliceW 16 [(Value.int .u64 0), (Value.bool false)] x2 x2 (fun x3 => andP (trueP) (CP Tryz.prog Fn.levels_New [a1] (fun x4 => andP (trueP) (buildW [(Value.slice none 0 0), (Value.slice none 0 0), (Value.pointer none), (Value.int .i64 0)] [(0, 1, x3), (2, 1, x4)] (fun x5 => boxW x5 (fun x6 => andP (trueP) (K x6)))))))) (CP Tryz.prog Fn.levels_New [a1] (fun x7 => andP (trueP) (makeSliceW 16 [(Value.int .u64 0), (Value.bool false)] x2 x2 (fun x8 => andP (trueP) (buildW [(Value.slice none 0 0), (Value.slice none 0 0), (Value.pointer none), (Value.int .i64 0)] [(0, 1, x8), (2, 1, x7)] (fun x9 => boxW x9 (fun x10 => andP (trueP) (K x10)))))))))))

/-- view_Whole -/
def S_view_Whole (a0 a1 : Value) (K : KV) : World → Prop :=
  lenW a0 (fun x1 => CP Tryz.prog Fn.view_New [x1, a1] (fun x2 => loopW1 (Value.int .i64 1) (fun J1 x3 => CP Tryz.prog Fn.view_View_Size [x2] (fun x4 => binIntW .lss x3 x4 (fun x5 => condP x5 (lenW a0 (fun x6 => binIntW .lss x3 x6 (fun x7 => joinW1 (fun x8 => CP Tryz.prog Fn.view_View_Know [x2, x3, x8] (fun x9 => binIntW .add x3 (Value.int .i64 1) (fun x10 => J1 x10))) (fun j1 => condP x7 (idxW 1 a0 x3 (fun x11 => load1W x11 (fun x12 => j1 x12))) (j1 (Value.int .u64 0)))))) (K x2))))))

/-- law18_call -/
def S_law18_call (a0 a1 a2 : Value) (K : KV) : World → Prop :=
  boxW a2 (fun x1 => newW #[(Value.int .i64 0), (Value.int .u64 0)] (fun x2 => loadNW 4 x1 (fun x3 => CP Tryz.prog Fn.keep_Call_Which [x3] (fun x4 => binIntW .eql x4 (Value.int .i64 4) (fun x5 => joinW2 (fun x6 x7 => condP x6 (buildW [(Value.int .i64 0), (Value.int .u64 0)] [(0, 1, (Value.int .i64 2)), (1, 1, (Value.int .u64 1))] (fun x8 => storeW 2 x2 x8 (fun _ => loadNW 2 x2 (fun x10 => K (Value.tuple #[x10, x7]))))) (buildW [(Value.int .i64 0), (Value.int .u64 0)] [(0, 1, (Value.int .i64 2))] (fun x11 => storeW 2 x2 x11 (fun _ => loadNW 2 x2 (fun x13 => K (Value.tuple #[x13, x7])))))) (fun j1 => condP x5 (drewW (loadNW 4 x1 (fun x14 => loadNW 4 x1 (fun x15 => CP Tryz.prog Fn.keep_Call_Key [x14] (fun x16 => andP (andP (loadNW 4 x1 (fun v => eqP v x15)) (andP (trueP) (trueP))) (CP Tryz.prog Fn.keep_Call_Val [x15] (fun x17 => andP (andP (trueP) (trueP)) (CP Tryz.prog Fn.table_Put [a0, a1, x16, x17] (fun x18 => andP (trueP) (extractW 0 x18 (fun x19 => extractW 1 x18 (fun x20 => j1 x19 x20)))))))))))) (binIntW .eql x4 (Value.int .i64 5) (fun x21 => condP x21 (loadNW 4 x1 (fun x22 => CP Tryz.prog Fn.keep_Call_Key [x22] (fun x23 => CP Tryz.prog Fn.table_Get [a0, a1, x23] (fun x24 => extractW 0 x24 (fun x25 => extractW 1 x24 (fun x26 => extractW 2 x24 (fun x27 => notW x26 (fun x28 => condP x28 (buildW [(Value.int .i64 0), (Value.int .u64 0)] [(0, 1, (Value.int .i64 3)), (1, 1, x25)] (fun x29 => storeW 2 x2 x29 (fun _ => loadNW 2 x2 (fun x31 => K (Value.tuple #[x31, x27]))))) (buildW [(Value.int .i64 0), (Value.int .u64 0)] [(0, 1, (Value.int .i64 1)), (1, 1, x25)] (fun x32 => storeW 2 x2 x32 (fun _ => loadNW 2 x2 (fun x34 => K (Value.tuple #[x34, x27]))))))))))))) (loadNW 4 x1 (fun x35 => CP Tryz.prog Fn.keep_Call_Key [x35] (fun x36 => CP Tryz.prog Fn.table_Del [a0, a1, x36] (fun x37 => extractW 0 x37 (fun x38 => extractW 1 x37 (fun x39 => j1 x38 x39))))))))))))))

/-- book_Same_api_Cell -/
def S_book_Same_api_Cell (a0 a1 : Value) (K : KV) : World → Prop :=
  lenW a0 (fun x1 => lenW a1 (fun x2 => binIntW .neq x1 x2 (fun x3 => condP x3 (K (Value.bool false)) (loopW1 (Value.int .i64 0) (fun J1 x4 => lenW a0 (fun x5 => binIntW .lss x4 x5 (fun x6 => condP x6 (drewW (idxW 2 a0 x4 (fun x7 => loadNW 2 x7 (fun x8 => idxW 2 a1 x4 (fun x9 => loadNW 2 x9 (fun x10 => eqAggW [.i .i64, .i .u64] .neq x8 x10 (fun x11 => condP x11 (K (Value.bool false)) (binIntW .add x4 (Value.int .i64 1) (fun x12 => J1 x12))))))))) (K (Value.bool true)))))))))

/-- view_View_Cells -/
def S_view_View_Cells (a0 : Value) (K : KV) : World → Prop :=
  nilW a0 (fun x1 => addW 2 x1 (fun x2 => load1W x2 (fun x3 => CP Tryz.prog Fn.levels_Levels_Cells [x3] (fun x4 => K x4))))

/-- book_Same_int -/
def S_book_Same_int (a0 a1 : Value) (K : KV) : World → Prop :=
  lenW a0 (fun x1 => lenW a1 (fun x2 => binIntW .neq x1 x2 (fun x3 => condP x3 (K (Value.bool false)) (loopW1 (Value.int .i64 0) (fun J1 x4 => lenW a0 (fun x5 => binIntW .lss x4 x5 (fun x6 => condP x6 (drewW (idxW 1 a0 x4 (fun x7 => load1W x7 (fun x8 => idxW 1 a1 x4 (fun x9 => load1W x9 (fun x10 => binIntW .neq x8 x10 (fun x11 => condP x11 (K (Value.bool false)) (binIntW .add x4 (Value.int .i64 1) (fun x12 => J1 x12))))))))) (K (Value.bool true)))))))))

/-- view_View_Frees -/
def S_view_View_Frees (a0 : Value) (K : KV) : World → Prop :=
  nilW a0 (fun x1 => addW 2 x1 (fun x2 => load1W x2 (fun x3 => CP Tryz.prog Fn.levels_Levels_Frees [x3] (fun x4 => K x4))))

/-- view_View_Depth -/
def S_view_View_Depth (a0 : Value) (K : KV) : World → Prop :=
  nilW a0 (fun x1 => addW 2 x1 (fun x2 => load1W x2 (fun x3 => CP Tryz.prog Fn.levels_Levels_Depth [x3] (fun x4 => K x4))))

/-- view_View_Need -/
def S_view_View_Need (a0 : Value) (K : KV) : World → Prop :=
  nilW a0 (fun x1 => addW 3 x1 (fun x2 => load1W x2 (fun x3 => K x3)))

/-- view_View_Know -/
def S_view_View_Know (a0 a1 a2 : Value) (K : KV) : World → Prop :=
  CP Tryz.prog Fn.view_View_is [a0, a1] (fun x1 => notW x1 (fun x2 => condP x2 (K (Value.int .i64 2)) (nilW a0 (fun x3 => addW 0 x3 (fun x4 => load1W x4 (fun x5 => idxW 2 x5 a1 (fun x6 => loadNW 2 x6 (fun x7 => newW #[(Value.int .u64 0), (Value.bool false)] (fun x8 => storeW 2 x8 x7 (fun _ => addW 1 x8 (fun x10 => load1W x10 (fun x11 => condP x11 (addW 0 x8 (fun x12 => load1W x12 (fun x13 => binIntW .neq x13 a2 (fun x14 => condP x14 (K (Value.int .i64 14)) (K (Value.int .i64 0)))))) (nilW a0 (fun x15 => addW 0 x15 (fun x16 => load1W x16 (fun x17 => buildW [(Value.int .u64 0), (Value.bool false)] [(0, 1, a2), (1, 1, (Value.bool true))] (fun x18 => idxW 2 x17 a1 (fun x19 => storeW 2 x19 x18 (fun _ => nilW a0 (fun x21 => addW 1 x21 (fun x22 => load1W x22 (fun x23 => buildSliceW [(Value.int .i64 0)] 1 [(0, 1, a1)] (fun x24 => appendW 1 8 x23 x24 (fun x25 => nilW a0 (fun x26 => addW 1 x26 (fun x27 => storeW 1 x27 x25 (fun _ => K (Value.int .i64 0))))))))))))))))))))))))))))

/-- view_View_Known -/
def S_view_View_Known (a0 : Value) (K : KV) : World → Prop :=
  nilW a0 (fun x1 => addW 1 x1 (fun x2 => load1W x2 (fun x3 => lenW x3 (fun x4 => makeSliceW 16 [(Value.int .i64 0), (Value.int .u64 0)] (Value.int .i64 0) x4 (fun x5 => nilW a0 (fun x6 => addW 1 x6 (fun x7 => load1W x7 (fun x8 => lenW x8 (fun x9 => loopW2 x5 (Value.int .i64 0) (fun J1 x10 x11 => binIntW .lss x11 x9 (fun x12 => condP x12 (idxW 1 x8 x11 (fun x13 => load1W x13 (fun x14 => nilW a0 (fun x15 => addW 0 x15 (fun x16 => load1W x16 (fun x17 => idxW 2 x17 x14 (fun x18 => addW 0 x18 (fun x19 => load1W x19 (fun x20 => buildW [(Value.int .i64 0), (Value.int .u64 0)] [(0, 1, x14), (1, 1, x20)] (fun x21 => buildSliceW [(Value.int .i64 0), (Value.int .u64 0)] 1 [(0, 2, x21)] (fun x22 => appendW 2 16 x10 x22 (fun x23 => binIntW .add x11 (Value.int .i64 1) (fun x24 => J1 x23 x24))))))))))))) (K x10))))))))))))

/-- arena_Blocks -/
def S_arena_Blocks (a0 : Value) (K : KV) : World → Prop :=
  lenW a0 (fun x1 => binIntW .lss x1 (Value.int .i64 32) (fun x2 => gW x2 false (fun K => K x1) (fun x3 => gW x2 false (fun K => binIntW .gtr x3 (Value.int .i64 256) K) (fun x4 => pickW x2 (Value.bool true) x4 (fun x5 => gW x5 false (fun K => K a0) (fun x6 => gW x5 false (fun K => idxW 1 x6 (Value.int .i64 5) K) (fun x7 => gW x5 false (fun K => load1W x7 K) (fun x8 => gW x5 false (fun K => binIntW .lss x8 (Value.int .u64 14) K) (fun x9 => pickW x5 (Value.bool true) x9 (fun x10 => gW x10 false (fun K => K a0) (fun x11 => gW x10 false (fun K => idxW 1 x11 (Value.int .i64 5) K) (fun x12 => gW x10 false (fun K => load1W x12 K) (fun x13 => gW x10 false (fun K => K x1) (fun x14 => gW x10 false (fun K => convW .u64 x14 K) (fun x15 => gW x10 false (fun K => binIntW .gtr x13 x15 K) (fun x16 => pickW x10 (Value.bool true) x16 (fun x17 => condP x17 (K (Value.tuple #[(Value.slice none 0 0), (Value.int .i64 12)])) (idxW 1 a0 (Value.int .i64 5) (fun x18 => load1W x18 (fun x19 => convW .i64 x19 (fun x20 => loopW2 (Value.slice none 0 0) (Value.int .i64 14) (fun J1 x21 x22 => binIntW .lss x22 x20 (fun x23 => condP x23 (idxW 1 a0 x22 (fun x24 => load1W x24 (fun x25 => CP Tryz.prog Fn.arena_header [x25] (fun x26 => extractW 0 x26 (fun x27 => extractW 1 x26 (fun x28 => binIntW .add x22 (Value.int .i64 1) (fun x29 => CP Tryz.prog Fn.arena_Size [x27] (fun x30 => binIntW .add x29 x30 (fun x31 => binIntW .eql x27 (Value.int .i64 0) (fun x32 => gW x32 false (fun K => K x31) (fun x33 => gW x32 false (fun K => K x20) (fun x34 => gW x32 false (fun K => binIntW .gtr x33 x34 K) (fun x35 => pickW x32 (Value.bool true) x35 (fun x36 => condP x36 (K (Value.tuple #[(Value.slice none 0 0), (Value.int .i64 12)])) (binIntW .add x22 (Value.int .i64 1) (fun x37 => buildW [(Value.int .i64 0), (Value.int .i64 0), (Value.bool false)] [(0, 1, x37), (1, 1, x27), (2, 1, x28)] (fun x38 => buildSliceW [(Value.int .i64 0), (Value.int .i64 0), (Value.bool false)] 1 [(0, 3, x38)] (fun x39 => appendW 3 24 x21 x39 (fun x40 => J1 x40 x31))))))))))))))))))) (K (Value.tuple #[x21, (Value.int .i64 0)])))))))))))))))))))))))))

/-- arena_Size -/
def S_arena_Size (a0 : Value) (K : KV) : World → Prop :=
  binIntW .lss a0 (Value.int .i64 1) (fun x1 => gW x1 false (fun K => K a0) (fun x2 => gW x1 false (fun K => binIntW .gtr x2 (Value.int .i64 4) K) (fun x3 => pickW x1 (Value.bool true) x3 (fun x4 => condP x4 (K (Value.int .i64 0)) (binIntW .shl (Value.int .i64 1) a0 (fun x5 => K x5))))))

/-- arena_Lists -/
def S_arena_Lists (a0 : Value) (K : KV) : World → Prop :=
  CP Tryz.prog Fn.arena_Blocks [a0] (fun x1 => extractW 0 x1 (fun x2 => extractW 1 x1 (fun x3 => binIntW .neq x3 (Value.int .i64 0) (fun x4 => condP x4 (K (Value.tuple #[(Value.slice none 0 0), x3])) (makeSliceW 24 [(Value.slice none 0 0)] (Value.int .i64 4) (Value.int .i64 4) (fun x5 => newW #[(Value.int .i64 0)] (fun x6 => storeW 1 x6 (Value.int .i64 1) (fun _ => loopW1 x6 (fun J1 x8 => load1W x8 (fun x9 => binIntW .leq x9 (Value.int .i64 4) (fun x10 => condP x10 (load1W x8 (fun x11 => CP Tryz.prog Fn.arena_head [x11] (fun x12 => idxW 1 a0 x12 (fun x13 => load1W x13 (fun x14 => newW #[(Value.int .u64 0)] (fun x15 => storeW 1 x15 x14 (fun _ => loopW1 x15 (fun J2 x17 => load1W x17 (fun x18 => binIntW .neq x18 (Value.int .u64 0) (fun x19 => condP x19 (CP Tryz.prog Fn.slices_IndexFunc_api_Block_api_Block [x2, (Value.func (.func Fn.arena_Lists_1) #[] #[x17, x8])] (fun x20 => drewW (binIntW .lss x20 (Value.int .i64 0) (fun x21 => gW x21 false (fun K => K x5) (fun x22 => gW x21 false (fun K => load1W x8 K) (fun x23 => gW x21 false (fun K => binIntW .sub x23 (Value.int .i64 1) K) (fun x24 => gW x21 false (fun K => idxW 1 x22 x24 K) (fun x25 => gW x21 false (fun K => load1W x25 K) (fun x26 => gW x21 false (fun K => K x2) (fun x27 => gW x21 false (fun K => K x20) (fun x28 => gW x21 false (fun K => idxW 3 x27 x28 K) (fun x29 => gW x21 false (fun K => addW 0 x29 K) (fun x30 => gW x21 false (fun K => load1W x30 K) (fun x31 => gW x21 false (fun K => CP Tryz.prog Fn.slices_Contains_int_int [x26, x31] K) (fun x32 => andP (andP (trueP) (andP (trueP) (andP (trueP) (trueP)))) (pickW x21 (Value.bool true) x32 (fun x33 => condP x33 (K (Value.tuple #[(Value.slice none 0 0), (Value.int .i64 12)])) (drewW (load1W x8 (fun x34 => binIntW .sub x34 (Value.int .i64 1) (fun x35 => load1W x8 (fun x36 => binIntW .sub x36 (Value.int .i64 1) (fun x37 => idxW 1 x5 x37 (fun x38 => load1W x38 (fun x39 => idxW 3 x2 x20 (fun x40 => addW 0 x40 (fun x41 => load1W x41 (fun x42 => buildSliceW [(Value.int .i64 0)] 1 [(0, 1, x42)] (fun x43 => andP (andP (trueP) (andP (load1W x38 (fun v => eqP v x39)) (andP (load1W x8 (fun v => eqP v x36)) (andP (load1W x8 (fun v => eqP v x34)) (trueP))))) (appendW 1 8 x39 x43 (fun x44 => andP (andP (trueP) (andP (trueP) (andP (load1W x8 (fun v => eqP v x34)) (trueP)))) (idxW 1 x5 x35 (fun x45 => storeW 1 x45 x44 (fun _ => andP (andP (trueP) (trueP)) (idxW 3 x2 x20 (fun x47 => addW 0 x47 (fun x48 => load1W x48 (fun x49 => idxW 1 a0 x49 (fun x50 => load1W x50 (fun x51 => storeW 1 x17 x51 (fun _ => load1W x17 (fun x53 => newW #[(Value.int .u64 0)] (fun x54 => storeW 1 x54 x53 (fun _ => J2 x54)))))))))))))))))))))))))))))))))))))))))))) (load1W x8 (fun x56 => newW #[(Value.int .i64 0)] (fun x57 => storeW 1 x57 x56 (fun _ => load1W x57 (fun x59 => binIntW .add x59 (Value.int .i64 1) (fun x60 => storeW 1 x57 x60 (fun _ => J1 x57))))))))))))))))) (K (Value.tuple #[x5, (Value.int .i64 0)])))))))))))))

/-- law18_live -/
def S_law18_live (a0 : Value) (K : KV) : World → Prop :=
  CP Tryz.prog Fn.arena_Blocks [a0] (fun x1 => extractW 0 x1 (fun x2 => extractW 1 x1 (fun x3 => loopW2 (Value.int .i64 0) (Value.int .i64 0) (fun J1 x4 x5 => lenW x2 (fun x6 => binIntW .lss x5 x6 (fun x7 => condP x7 (idxW 3 x2 x5 (fun x8 => addW 2 x8 (fun x9 => load1W x9 (fun x10 => joinW1 (fun x11 => binIntW .add x5 (Value.int .i64 1) (fun x12 => J1 x11 x12)) (fun j1 => condP x10 (binIntW .add x4 (Value.int .i64 1) (fun x13 => j1 x13)) (j1 x4)))))) (K x4)))))))

/-- book_Within -/
def S_book_Within (a0 a1 a2 : Value) (K : KV) : World → Prop :=
  binIntW .sub a2 a1 (fun x1 => binIntW .add x1 (Value.int .i64 1) (fun x2 => binIntW .rem a0 x2 (fun x3 => binIntW .lss x3 (Value.int .i64 0) (fun x4 => joinW1 (fun x5 => binIntW .add a1 x5 (fun x6 => K x6)) (fun j1 => condP x4 (binIntW .add x3 a2 (fun x7 => binIntW .sub x7 a1 (fun x8 => binIntW .add x8 (Value.int .i64 1) (fun x9 => j1 x9)))) (j1 x3))))))

/-- slices_Clone_api_Cell_api_Cell -/
def S_slices_Clone_api_Cell_api_Cell (a0 : Value) (K : KV) : World → Prop :=
  eqNilSliceW .eql a0 (Value.slice none 0 0) (fun x1 => condP x1 (K (Value.slice none 0 0)) (buildSliceW [(Value.int .i64 0), (Value.int .u64 0)] 0 [] (fun x2 => appendW 2 16 x2 a0 (fun x3 => K x3))))

/-- table_Put -/
def S_table_Put (a0 a1 a2 a3 : Value) (K : KV) : World → Prop :=
  boxW a1 (fun x1 => boxW a2 (fun x2 => boxW a3 (fun x3 => newW #[(Value.bool false)] (fun x4 => storeW 1 x4 (Value.bool false) (fun _ => load1W x1 (fun x6 => CP Tryz.prog Fn.draft_Do [a0, x6, (Value.func (.func Fn.table_Put_1) #[] #[x1, x2, x3, x4])] (fun x7 => load1W x4 (fun x8 => gW x8 true (fun K => K x7) (fun x9 => gW x8 true (fun K => binIntW .eql x9 (Value.int .i64 0) K) (fun x10 => pickW x8 x10 (Value.bool false) (fun x11 => K (Value.tuple #[x11, x7]))))))))))))

/-- table_Get -/
def S_table_Get (a0 a1 a2 : Value) (K : KV) : World → Prop :=
  boxW a1 (fun x1 => boxW a2 (fun x2 => newW #[(Value.int .u64 0)] (fun x3 => newW #[(Value.bool false)] (fun x4 => storeW 1 x3 (Value.int .u64 0) (fun _ => storeW 1 x4 (Value.bool false) (fun _ => load1W x1 (fun x7 => CP Tryz.prog Fn.draft_Do [a0, x7, (Value.func (.func Fn.table_Get_1) #[] #[x1, x2, x3, x4])] (fun x8 => binIntW .neq x8 (Value.int .i64 0) (fun x9 => condP x9 (K (Value.tuple #[(Value.int .u64 0), (Value.bool false), x8])) (drewW (load1W x3 (fun x10 => load1W x4 (fun x11 => K (Value.tuple #[x10, x11, (Value.int .i64 0)]))))))))))))))

/-- table_All -/
def S_table_All (a0 a1 : Value) (K : KV) : World → Prop :=
  boxW a1 (fun x1 => newW #[(Value.slice none 0 0)] (fun x2 => load1W x1 (fun x3 => CP Tryz.prog Fn.draft_Do [a0, x3, (Value.func (.func Fn.table_All_1) #[] #[x1, x2])] (fun x4 => binIntW .neq x4 (Value.int .i64 0) (fun x5 => condP x5 (K (Value.tuple #[(Value.slice none 0 0), x4])) (load1W x2 (fun x6 => CP Tryz.prog Fn.slices_SortFunc_api_Pair_api_Pair [x6, (Value.func (.func Fn.table_All_2) #[] #[])] (fun x7 => load1W x2 (fun x8 => K (Value.tuple #[x8, (Value.int .i64 0)]))))))))))

/-- keep_Objects_Do -/
def S_keep_Objects_Do (a0 a1 : Value) (K : KV) : World → Prop :=
  boxW a1 (fun x1 => newW #[(Value.int .i64 0), (Value.int .u64 0)] (fun x2 => drewW (loadNW 4 x1 (fun x3 => loadNW 4 x1 (fun x4 => loadNW 4 x1 (fun x5 => CP Tryz.prog Fn.keep_Call_Place [x3] (fun x6 => andP (andP (loadNW 4 x1 (fun v => eqP v x5)) (andP (loadNW 4 x1 (fun v => eqP v x4)) (andP (trueP) (trueP)))) (CP Tryz.prog Fn.keep_Call_Key [x4] (fun x7 => andP (andP (loadNW 4 x1 (fun v => eqP v x5)) (andP (trueP) (trueP))) (CP Tryz.prog Fn.keep_Call_Val [x5] (fun x8 => andP (andP (trueP) (trueP)) (loadNW 4 x1 (fun x9 => CP Tryz.prog Fn.keep_Call_Which [x9] (fun x10 => binIntW .eql x10 (Value.int .i64 1) (fun x11 => joinW1 (fun x12 => condP x12 (buildW [(Value.int .i64 0), (Value.int .u64 0)] [(0, 1, (Value.int .i64 2)), (1, 1, (Value.int .u64 1))] (fun x13 => storeW 2 x2 x13 (fun _ => loadNW 2 x2 (fun x15 => K (Value.tuple #[x15, (Value.bool true)]))))) (buildW [(Value.int .i64 0), (Value.int .u64 0)] [(0, 1, (Value.int .i64 2))] (fun x16 => storeW 2 x2 x16 (fun _ => loadNW 2 x2 (fun x18 => K (Value.tuple #[x18, (Value.bool true)])))))) (fun j1 => condP x11 (CP Tryz.prog Fn.keep_Objects_Put [a0, x6, x7, (Value.int .u64 0)] (fun x19 => j1 x19)) (binIntW .eql x10 (Value.int .i64 4) (fun x20 => joinW1 (fun x21 => joinW1 (fun x22 => j1 x22) (fun j3 => condP x21 (CP Tryz.prog Fn.keep_Objects_Put [a0, x6, x7, x8] (fun x23 => j3 x23)) (binIntW .eql x10 (Value.int .i64 2) (fun x24 => joinW1 (fun x25 => joinW1 (fun x26 => j3 x26) (fun j5 => condP x25 (CP Tryz.prog Fn.keep_Objects_Del [a0, x6, x7] (fun x27 => j5 x27)) (binIntW .eql x10 (Value.int .i64 3) (fun x28 => condP x28 (CP Tryz.prog Fn.keep_Objects_Find [a0, x6, x7] (fun x29 => extractW 0 x29 (fun x30 => extractW 1 x29 (fun x31 => j5 x31)))) (binIntW .eql x10 (Value.int .i64 5) (fun x32 => joinW1 (fun x33 => condP x33 (CP Tryz.prog Fn.keep_Objects_Find [a0, x6, x7] (fun x34 => extractW 0 x34 (fun x35 => extractW 1 x34 (fun x36 => notW x36 (fun x37 => condP x37 (buildW [(Value.int .i64 0), (Value.int .u64 0)] [(0, 1, (Value.int .i64 3))] (fun x38 => storeW 2 x2 x38 (fun _ => loadNW 2 x2 (fun x40 => K (Value.tuple #[x40, (Value.bool true)]))))) (nilW a0 (fun x41 => addW 0 x41 (fun x42 => idxArrW 8 1 x42 x6 (fun x43 => load1W x43 (fun x44 => idxW 2 x44 x35 (fun x45 => addW 1 x45 (fun x46 => load1W x46 (fun x47 => buildW [(Value.int .i64 0), (Value.int .u64 0)] [(0, 1, (Value.int .i64 1)), (1, 1, x47)] (fun x48 => storeW 2 x2 x48 (fun _ => loadNW 2 x2 (fun x50 => K (Value.tuple #[x50, (Value.bool true)]))))))))))))))))) (binIntW .eql x10 (Value.int .i64 7) (fun x51 => condP x51 (drewW (nilW a0 (fun x52 => addW 0 x52 (fun x53 => idxArrW 8 1 x53 x6 (fun x54 => load1W x54 (fun x55 => buildW [(Value.int .u64 0), (Value.int .u64 0)] [(1, 1, x7)] (fun x56 => nilW a0 (fun x57 => addW 0 x57 (fun x58 => andP (appendW 2 16 (Value.slice none 0 0) x55 (fun x59 => andP (andP (trueP) (trueP)) (buildSliceW [(Value.int .u64 0), (Value.int .u64 0)] 1 [(0, 2, x56)] (fun x60 => andP (trueP) (appendW 2 16 x59 x60 (fun x61 => andP (trueP) (idxArrW 8 1 x58 x6 (fun x62 => storeW 1 x62 x61 (fun _ => andP (trueP) (buildW [(Value.int .i64 0), (Value.int .u64 0)] [(0, 1, (Value.int .i64 3))] (fun x64 => storeW 2 x2 x64 (fun _ => loadNW 2 x2 (fun x66 => K (Value.tuple #[x66, (Value.bool true)])))))))))))))) (buildSliceW [(Value.int .u64 0), (Value.int .u64 0)] 1 [(0, 2, x56)] (fun x67 => andP (andP (load1W x54 (fun v => eqP v x55)) (trueP)) (appendW 2 16 (Value.slice none 0 0) x55 (fun x68 => andP (andP (trueP) (trueP)) (appendW 2 16 x68 x67 (fun x69 => andP (trueP) (idxArrW 8 1 x58 x6 (fun x70 => storeW 1 x70 x69 (fun _ => andP (trueP) (buildW [(Value.int .i64 0), (Value.int .u64 0)] [(0, 1, (Value.int .i64 3))] (fun x72 => storeW 2 x2 x72 (fun _ => loadNW 2 x2 (fun x74 => K (Value.tuple #[x74, (Value.bool true)]))))))))))))))))))))))) (binIntW .eql x10 (Value.int .i64 8) (fun x75 => condP x75 (nilW a0 (fun x76 => addW 0 x76 (fun x77 => idxArrW 8 1 x77 x6 (fun x78 => load1W x78 (fun x79 => lenW x79 (fun x80 => binIntW .eql x80 (Value.int .i64 0) (fun x81 => condP x81 (buildW [(Value.int .i64 0), (Value.int .u64 0)] [] (fun x82 => storeW 2 x2 x82 (fun _ => loadNW 2 x2 (fun x84 => K (Value.tuple #[x84, (Value.bool false)]))))) (nilW a0 (fun x85 => addW 0 x85 (fun x86 => idxArrW 8 1 x86 x6 (fun x87 => load1W x87 (fun x88 => idxW 2 x88 (Value.int .i64 0) (fun x89 => addW 1 x89 (fun x90 => load1W x90 (fun x91 => drewW (nilW a0 (fun x92 => addW 0 x92 (fun x93 => idxArrW 8 1 x93 x6 (fun x94 => load1W x94 (fun x95 => sliceW 2 x95 (some (Value.int .i64 1)) none (fun x96 => nilW a0 (fun x97 => addW 0 x97 (fun x98 => appendW 2 16 (Value.slice none 0 0) x96 (fun x99 => andP (andP (trueP) (trueP)) (idxArrW 8 1 x98 x6 (fun x100 => storeW 1 x100 x99 (fun _ => andP (trueP) (buildW [(Value.int .i64 0), (Value.int .u64 0)] [(0, 1, (Value.int .i64 1)), (1, 1, x91)] (fun x102 => storeW 2 x2 x102 (fun _ => loadNW 2 x2 (fun x104 => K (Value.tuple #[x104, (Value.bool true)])))))))))))))))))))))))))))))))) (CP Tryz.prog Fn.keep_Objects_Count [a0, x6, x7, x8] (fun x105 => convW .u64 x105 (fun x106 => buildW [(Value.int .i64 0), (Value.int .u64 0)] [(0, 1, (Value.int .i64 1)), (1, 1, x106)] (fun x107 => storeW 2 x2 x107 (fun _ => loadNW 2 x2 (fun x109 => K (Value.tuple #[x109, (Value.bool true)])))))))))))) (fun j6 => condP x32 (j6 x32) (binIntW .eql x10 (Value.int .i64 10) (fun x110 => j6 x110))))))))) (fun j4 => condP x24 (j4 x24) (binIntW .eql x10 (Value.int .i64 6) (fun x111 => joinW1 (fun x112 => j4 x112) (fun j7 => condP x111 (j7 x111) (binIntW .eql x10 (Value.int .i64 11) (fun x113 => j7 x113)))))))))) (fun j2 => condP x20 (j2 x20) (binIntW .eql x10 (Value.int .i64 9) (fun x114 => j2 x114)))))))))))))))))))))

/-- law18_settle -/
def S_law18_settle (a0 a1 : Value) (K : KV) : World → Prop :=
  CP Tryz.prog Fn.view_View_Cells [a1] (fun x1 => CP Tryz.prog Fn.ref21_Apply [a0, x1] (fun x2 => CP Tryz.prog Fn.view_View_Frees [a1] (fun x3 => loopW2 x2 (Value.int .i64 0) (fun J1 x4 x5 => lenW x3 (fun x6 => binIntW .lss x5 x6 (fun x7 => condP x7 (CP Tryz.prog Fn.view_Whole [x4, (Value.int .i64 96)] (fun x8 => eqNilW .eql x8 (Value.pointer none) (fun x9 => gW x9 false (fun K => K x8) (fun x10 => gW x9 false (fun K => K x3) (fun x11 => gW x9 false (fun K => K x5) (fun x12 => gW x9 false (fun K => idxW 1 x11 x12 K) (fun x13 => gW x9 false (fun K => load1W x13 K) (fun x14 => gW x9 false (fun K => CP Tryz.prog Fn.arena_Give [x10, x14] K) (fun x15 => gW x9 false (fun K => binIntW .neq x15 (Value.int .i64 0) K) (fun x16 => pickW x9 (Value.bool true) x16 (fun x17 => condP x17 (K (Value.tuple #[x4, (Value.bool false)])) (CP Tryz.prog Fn.view_View_Cells [x8] (fun x18 => CP Tryz.prog Fn.ref21_Apply [x4, x18] (fun x19 => binIntW .add x5 (Value.int .i64 1) (fun x20 => J1 x19 x20))))))))))))))) (K (Value.tuple #[x4, (Value.bool true)]))))))))

/-- law18_all -/
def S_law18_all (a0 a1 : Value) (K : KV) : World → Prop :=
  CP Tryz.prog Fn.table_All [a0, a1] (fun x1 => extractW 0 x1 (fun x2 => extractW 1 x1 (fun x3 => CP Tryz.prog Fn.table_Len [a0, a1] (fun x4 => extractW 0 x4 (fun x5 => extractW 1 x4 (fun x6 => binIntW .neq x6 x3 (fun x7 => gW x7 false (fun K => K x5) (fun x8 => gW x7 false (fun K => K x2) (fun x9 => gW x7 false (fun K => lenW x9 K) (fun x10 => gW x7 false (fun K => binIntW .neq x8 x10 K) (fun x11 => pickW x7 (Value.bool true) x11 (fun x12 => condP x12 (K (Value.tuple #[(Value.slice none 0 0), (Value.int .i64 1)])) (K (Value.tuple #[x2, x3]))))))))))))))

/-- book_Same_api_Pair -/
def S_book_Same_api_Pair (a0 a1 : Value) (K : KV) : World → Prop :=
  lenW a0 (fun x1 => lenW a1 (fun x2 => binIntW .neq x1 x2 (fun x3 => condP x3 (K (Value.bool false)) (loopW1 (Value.int .i64 0) (fun J1 x4 => lenW a0 (fun x5 => binIntW .lss x4 x5 (fun x6 => condP x6 (drewW (idxW 2 a0 x4 (fun x7 => loadNW 2 x7 (fun x8 => idxW 2 a1 x4 (fun x9 => loadNW 2 x9 (fun x10 => eqAggW [.i .u64, .i .u64] .neq x8 x10 (fun x11 => condP x11 (K (Value.bool false)) (binIntW .add x4 (Value.int .i64 1) (fun x12 => J1 x12))))))))) (K (Value.bool true)))))))))

/-- keep_Call_Which -/
def S_keep_Call_Which (a0 : Value) (K : KV) : World → Prop :=
  boxW a0 (fun x1 => addW 0 x1 (fun x2 => load1W x2 (fun x3 => binIntW .geq x3 (Value.int .i64 1) (fun x4 => gW x4 true (fun K => addW 0 x1 K) (fun x5 => gW x4 true (fun K => load1W x5 K) (fun x6 => gW x4 true (fun K => binIntW .leq x6 (Value.int .i64 12) K) (fun x7 => pickW x4 x7 (Value.bool false) (fun x8 => condP x8 (addW 0 x1 (fun x9 => load1W x9 (fun x10 => K x10))) (addW 0 x1 (fun x11 => load1W x11 (fun x12 => CP Tryz.prog Fn.book_Within [x12, (Value.int .i64 1), (Value.int .i64 12)] (fun x13 => K x13))))))))))))

/-- levels_New -/
def S_levels_New (a0 : Value) (K : KV) : World → Prop :=
  minW a0 [(Value.int .i64 96)] (fun x1 => maxW (Value.int .i64 0) [x1] (fun x2 => CP Tryz.prog Fn.levels_fresh [] (fun x3 => buildSliceW [(Value.pointer none)] 1 [(0, 1, x3)] (fun x4 => buildW [(Value.int .i64 0), (Value.slice none 0 0)] [(0, 1, x2), (1, 1, x4)] (fun x5 => boxW x5 (fun x6 => K x6))))))

/-- view_View_Size -/
def S_view_View_Size (a0 : Value) (K : KV) : World → Prop :=
  nilW a0 (fun x1 => addW 0 x1 (fun x2 => load1W x2 (fun x3 => lenW x3 (fun x4 => K x4))))

/-- keep_Call_Key -/
def S_keep_Call_Key (a0 : Value) (K : KV) : World → Prop :=
  boxW a0 (fun x1 => addW 2 x1 (fun x2 => load1W x2 (fun x3 => binIntW .rem x3 (Value.int .u64 12) (fun x4 => K x4))))

/-- keep_Call_Val -/
def S_keep_Call_Val (a0 : Value) (K : KV) : World → Prop :=
  boxW a0 (fun x1 => addW 3 x1 (fun x2 => load1W x2 (fun x3 => binIntW .rem x3 (Value.int .u64 12) (fun x4 => K x4))))

/-- table_Del -/
def S_table_Del (a0 a1 a2 : Value) (K : KV) : World → Prop :=
  boxW a1 (fun x1 => boxW a2 (fun x2 => newW #[(Value.bool false)] (fun x3 => storeW 1 x3 (Value.bool false) (fun _ => load1W x1 (fun x5 => CP Tryz.prog Fn.draft_Do [a0, x5, (Value.func (.func Fn.table_Del_1) #[] #[x1, x2, x3])] (fun x6 => load1W x3 (fun x7 => gW x7 true (fun K => K x6) (fun x8 => gW x7 true (fun K => binIntW .eql x8 (Value.int .i64 0) K) (fun x9 => pickW x7 x9 (Value.bool false) (fun x10 => K (Value.tuple #[x10, x6])))))))))))

/-- levels_Levels_Cells -/
def S_levels_Levels_Cells (a0 : Value) (K : KV) : World → Prop :=
  newW #[(Value.slice none 0 0)] (fun x1 => nilW a0 (fun x2 => addW 1 x2 (fun x3 => load1W x3 (fun x4 => CP Tryz.prog Fn.slices_Backward_levels_level_levels_level [x4] (fun x5 => backW Fn.slices_Backward_levels_level_levels_level_1 x5 (fun J R x6 x7 => CP Tryz.prog Fn.writes_New [(Value.int .i64 96)] (fun x8 => nilW x7 (fun x9 => addW 0 x9 (fun x10 => load1W x10 (fun x11 => CP Tryz.prog Fn.writes_Writes_All [x11] (fun x12 => CP Tryz.prog Fn.writes_Writes_Take [x8, x12] (fun x13 => load1W x1 (fun x14 => CP Tryz.prog Fn.writes_Writes_Take [x8, x14] (fun x15 => CP Tryz.prog Fn.writes_Writes_All [x8] (fun x16 => storeW 1 x1 x16 (fun _ => J))))))))))) (fun K => load1W x1 (fun x18 => K x18)) (fun K => K (Value.slice none 0 0)) K)))))

/-- levels_Levels_Frees -/
def S_levels_Levels_Frees (a0 : Value) (K : KV) : World → Prop :=
  nilW a0 (fun x1 => addW 1 x1 (fun x2 => load1W x2 (fun x3 => lenW x3 (fun x4 => loopW2 (Value.slice none 0 0) (Value.int .i64 0) (fun J1 x5 x6 => binIntW .lss x6 x4 (fun x7 => condP x7 (idxW 1 x3 x6 (fun x8 => load1W x8 (fun x9 => nilW x9 (fun x10 => addW 1 x10 (fun x11 => load1W x11 (fun x12 => appendW 1 8 x5 x12 (fun x13 => binIntW .add x6 (Value.int .i64 1) (fun x14 => J1 x13 x14)))))))) (K x5)))))))

/-- levels_Levels_Depth -/
def S_levels_Levels_Depth (a0 : Value) (K : KV) : World → Prop :=
  nilW a0 (fun x1 => addW 1 x1 (fun x2 => load1W x2 (fun x3 => lenW x3 (fun x4 => K x4))))

/-- view_View_is -/
def S_view_View_is (a0 a1 : Value) (K : KV) : World → Prop :=
  binIntW .geq a1 (Value.int .i64 1) (fun x1 => gW x1 true (fun K => K a1) (fun x2 => gW x1 true (fun K => K a0) (fun x3 => gW x1 true (fun K => nilW x3 K) (fun x4 => gW x1 true (fun K => addW 0 x4 K) (fun x5 => gW x1 true (fun K => load1W x5 K) (fun x6 => gW x1 true (fun K => lenW x6 K) (fun x7 => gW x1 true (fun K => binIntW .lss x2 x7 K) (fun x8 => pickW x1 x8 (Value.bool false) (fun x9 => K x9)))))))))

/-- arena_header -/
def S_arena_header (a0 : Value) (K : KV) : World → Prop :=
  binIntW .geq a0 (Value.int .u64 1) (fun x1 => gW x1 true (fun K => K a0) (fun x2 => gW x1 true (fun K => binIntW .leq x2 (Value.int .u64 4) K) (fun x3 => pickW x1 x3 (Value.bool false) (fun x4 => condP x4 (convW .i64 a0 (fun x5 => K (Value.tuple #[x5, (Value.bool false)]))) (binIntW .geq a0 (Value.int .u64 9) (fun x6 => gW x6 true (fun K => K a0) (fun x7 => gW x6 true (fun K => binIntW .leq x7 (Value.int .u64 12) K) (fun x8 => pickW x6 x8 (Value.bool false) (fun x9 => condP x9 (binIntW .sub a0 (Value.int .u64 8) (fun x10 => convW .i64 x10 (fun x11 => K (Value.tuple #[x11, (Value.bool true)])))) (K (Value.tuple #[(Value.int .i64 0), (Value.bool false)])))))))))))

/-- arena_head -/
def S_arena_head (a0 : Value) (K : KV) : World → Prop :=
  binIntW .add (Value.int .i64 0) a0 (fun x1 => K x1)

/-- slices_IndexFunc_api_Block_api_Block -/
def S_slices_IndexFunc_api_Block_api_Block (a0 a1 : Value) (K : KV) : World → Prop :=
  lenW a0 (fun x1 => loopW1 (Value.int .i64 0) (fun J1 x2 => binIntW .lss x2 x1 (fun x3 => condP x3 (idxW 3 a0 x2 (fun x4 => loadNW 3 x4 (fun x5 => dynW Tryz.prog a1 [x5] (fun x6 => condP x6 (K x2) (binIntW .add x2 (Value.int .i64 1) (fun x7 => J1 x7)))))) (K (Value.int .i64 (-1))))))

/-- arena_Lists_1 -/
def S_arena_Lists_1 (a0 a1 a2 : Value) (K : KV) : World → Prop :=
  boxW a0 (fun x1 => addW 0 x1 (fun x2 => load1W x2 (fun x3 => convW .u64 x3 (fun x4 => load1W a1 (fun x5 => binIntW .eql x4 x5 (fun x6 => gW x6 true (fun K => addW 1 x1 K) (fun x7 => gW x6 true (fun K => load1W x7 K) (fun x8 => gW x6 true (fun K => load1W a2 K) (fun x9 => gW x6 true (fun K => binIntW .eql x8 x9 K) (fun x10 => pickW x6 x10 (Value.bool false) (fun x11 => gW x11 true (fun K => addW 2 x1 K) (fun x12 => gW x11 true (fun K => load1W x12 K) (fun x13 => gW x11 true (fun K => notW x13 K) (fun x14 => pickW x11 x14 (Value.bool false) (fun x15 => K x15)))))))))))))))

/-- slices_Contains_int_int -/
def S_slices_Contains_int_int (a0 a1 : Value) (K : KV) : World → Prop :=
  CP Tryz.prog Fn.slices_Index_int_int [a0, a1] (fun x1 => binIntW .geq x1 (Value.int .i64 0) (fun x2 => K x2))

/-- ref1_Held -/
def S_ref1_Held (a0 a1 a2 : Value) (K : KV) : World → Prop :=
  binIntW .lss a0 a1 (fun x1 => condP x1 (K a1) (binIntW .gtr a0 a2 (fun x2 => condP x2 (K a2) (K a0))))

/-- draft_Do -/
def S_draft_Do (a0 a1 a2 : Value) (K : KV) : World → Prop :=
  binIntW .lss a1 (Value.int .i64 6) (fun x1 => gW x1 false (fun K => K a1) (fun x2 => gW x1 false (fun K => binIntW .geq x2 (Value.int .i64 14) K) (fun x3 => pickW x1 (Value.bool true) x3 (fun x4 => condP x4 (K (Value.int .i64 2)) (CP Tryz.prog Fn.draft_of [a0] (fun x5 => buildW [(Value.pointer none), (Value.int .i64 0), (Value.int .i64 0)] [(0, 1, x5)] (fun x6 => boxW x6 (fun x7 => dynW Tryz.prog a2 [x7] (fun x8 => nilW x7 (fun x9 => addW 1 x9 (fun x10 => load1W x10 (fun x11 => binIntW .eql x11 (Value.int .i64 11) (fun x12 => condP x12 (nilW x7 (fun x13 => addW 0 x13 (fun x14 => load1W x14 (fun x15 => CP Tryz.prog Fn.view_View_Need [x15] (fun x16 => CP Tryz.prog Fn.view_View_Read [a0, x16] (fun x17 => extractW 0 x17 (fun x18 => extractW 1 x17 (fun x19 => K x19)))))))) (nilW x7 (fun x20 => addW 1 x20 (fun x21 => load1W x21 (fun x22 => binIntW .neq x22 (Value.int .i64 0) (fun x23 => condP x23 (nilW x7 (fun x24 => addW 1 x24 (fun x25 => load1W x25 (fun x26 => K x26)))) (nilW x7 (fun x27 => addW 0 x27 (fun x28 => load1W x28 (fun x29 => CP Tryz.prog Fn.view_View_Cells [x29] (fun x30 => CP Tryz.prog Fn.view_View_Take [a0, x30] (fun x31 => binIntW .neq x31 (Value.int .i64 0) (fun x32 => condP x32 (K x31) (nilW x7 (fun x33 => addW 0 x33 (fun x34 => load1W x34 (fun x35 => CP Tryz.prog Fn.view_View_Frees [x35] (fun x36 => lenW x36 (fun x37 => loopW1 (Value.int .i64 0) (fun J1 x38 => binIntW .lss x38 x37 (fun x39 => condP x39 (idxW 1 x36 x38 (fun x40 => load1W x40 (fun x41 => CP Tryz.prog Fn.view_View_Free [a0, x41] (fun x42 => binIntW .add x38 (Value.int .i64 1) (fun x43 => J1 x43))))) (K (Value.int .i64 0)))))))))))))))))))))))))))))))))))

/-- table_Put_1 -/
def S_table_Put_1 (a0 a1 a2 a3 a4 : Value) (K : KV) : World → Prop :=
  load1W a1 (fun x1 => CP Tryz.prog Fn.table_open [a0, x1] (fun x2 => CP Tryz.prog Fn.draft_Draft_OK [a0] (fun x3 => gW x3 true (fun K => K x2) (fun x4 => gW x3 true (fun K => nilW x4 K) (fun x5 => gW x3 true (fun K => addW 1 x5 K) (fun x6 => gW x3 true (fun K => load1W x6 K) (fun x7 => gW x3 true (fun K => binIntW .eql x7 (Value.int .i64 0) K) (fun x8 => pickW x3 x8 (Value.bool false) (fun x9 => joinW1 (fun x10 => CP Tryz.prog Fn.draft_Draft_OK [a0] (fun x11 => notW x11 (fun x12 => condP x12 (K (Value.tuple #[])) (load1W a2 (fun x13 => CP Tryz.prog Fn.table_table_seek [x10, x13] (fun x14 => extractW 0 x14 (fun x15 => extractW 1 x14 (fun x16 => binIntW .neq x16 (Value.int .i64 0) (fun x17 => condP x17 (binIntW .add x16 (Value.int .i64 1) (fun x18 => load1W a3 (fun x19 => CP Tryz.prog Fn.draft_Draft_Write [a0, x18, x19] (fun x20 => K (Value.tuple #[]))))) (drewW (CP Tryz.prog Fn.draft_Draft_OK [a0] (fun x21 => andP (trueP) (gW x21 true (fun K => K x10) (fun x22 => gW x21 true (fun K => nilW x22 K) (fun x23 => gW x21 true (fun K => addW 4 x23 K) (fun x24 => gW x21 true (fun K => load1W x24 K) (fun x25 => gW x21 true (fun K => K x10) (fun x26 => gW x21 true (fun K => nilW x26 K) (fun x27 => gW x21 true (fun K => addW 2 x27 K) (fun x28 => gW x21 true (fun K => load1W x28 K) (fun x29 => gW x21 true (fun K => convW .u64 x29 K) (fun x30 => gW x21 true (fun K => binIntW .geq x25 x30 K) (fun x31 => pickW x21 x31 (Value.bool false) (fun x32 => gW x32 true (fun K => K x10) (fun x33 => gW x32 true (fun K => nilW x33 K) (fun x34 => gW x32 true (fun K => addW 2 x34 K) (fun x35 => gW x32 true (fun K => load1W x35 K) (fun x36 => gW x32 true (fun K => binIntW .lss x36 (Value.int .i64 16) K) (fun x37 => pickW x32 x37 (Value.bool false) (fun x38 => joinW1 (fun x39 => CP Tryz.prog Fn.draft_Draft_Alloc [a0, (Value.int .i64 3)] (fun x40 => binIntW .add x40 (Value.int .i64 0) (fun x41 => load1W a2 (fun x42 => CP Tryz.prog Fn.draft_Draft_Write [a0, x41, x42] (fun x43 => binIntW .add x40 (Value.int .i64 1) (fun x44 => load1W a3 (fun x45 => CP Tryz.prog Fn.draft_Draft_Write [a0, x44, x45] (fun x46 => binIntW .add x40 (Value.int .i64 2) (fun x47 => CP Tryz.prog Fn.draft_Draft_Point [a0, x47, (Value.int .i64 0)] (fun x48 => CP Tryz.prog Fn.draft_Draft_Point [a0, x39, x40] (fun x49 => drewW (nilW x10 (fun x50 => addW 1 x50 (fun x51 => load1W x51 (fun x52 => binIntW .add x52 (Value.int .i64 0) (fun x53 => nilW x10 (fun x54 => addW 4 x54 (fun x55 => load1W x55 (fun x56 => binIntW .add x56 (Value.int .u64 1) (fun x57 => CP Tryz.prog Fn.draft_Draft_Write [a0, x53, x57] (fun x58 => andP (andP (trueP) (andP (trueP) (trueP))) (storeW 1 a4 (Value.bool true) (fun _ => K (Value.tuple #[])))))))))))))))))))))))) (fun j2 => condP x38 (CP Tryz.prog Fn.table_table_grow [x10] (fun x60 => load1W a2 (fun x61 => CP Tryz.prog Fn.table_table_seek [x10, x61] (fun x62 => extractW 0 x62 (fun x63 => extractW 1 x62 (fun x64 => j2 x63)))))) (j2 x15)))))))))))))))))))))))))))))))) (fun j1 => condP x9 (load1W a1 (fun x65 => CP Tryz.prog Fn.table_made [a0, x65] (fun x66 => j1 x66))) (j1 x2)))))))))))

/-- table_open -/
def S_table_open (a0 a1 : Value) (K : KV) : World → Prop :=
  CP Tryz.prog Fn.draft_Draft_Place [a0, a1] (fun x1 => buildW [(Value.pointer none), (Value.int .i64 0), (Value.int .i64 0), (Value.int .i64 0), (Value.int .u64 0)] [(0, 1, a0), (1, 1, x1)] (fun x2 => boxW x2 (fun x3 => nilW x3 (fun x4 => addW 1 x4 (fun x5 => load1W x5 (fun x6 => binIntW .eql x6 (Value.int .i64 0) (fun x7 => condP x7 (K x3) (nilW x3 (fun x8 => addW 1 x8 (fun x9 => load1W x9 (fun x10 => binIntW .add x10 (Value.int .i64 0) (fun x11 => CP Tryz.prog Fn.draft_Draft_Read [a0, x11] (fun x12 => nilW x3 (fun x13 => addW 4 x13 (fun x14 => storeW 1 x14 x12 (fun _ => nilW x3 (fun x16 => addW 1 x16 (fun x17 => load1W x17 (fun x18 => binIntW .add x18 (Value.int .i64 1) (fun x19 => CP Tryz.prog Fn.draft_Draft_Read [a0, x19] (fun x20 => binIntW .lss x20 (Value.int .u64 2) (fun x21 => gW x21 false (fun K => K x20) (fun x22 => gW x21 false (fun K => binIntW .gtr x22 (Value.int .u64 16) K) (fun x23 => pickW x21 (Value.bool true) x23 (fun x24 => gW x24 false (fun K => K x20) (fun x25 => gW x24 false (fun K => K x20) (fun x26 => gW x24 false (fun K => binIntW .sub x26 (Value.int .u64 1) K) (fun x27 => gW x24 false (fun K => binIntW .and x25 x27 K) (fun x28 => gW x24 false (fun K => binIntW .neq x28 (Value.int .u64 0) K) (fun x29 => pickW x24 (Value.bool true) x29 (fun x30 => joinW1 (fun x31 => convW .i64 x31 (fun x32 => nilW x3 (fun x33 => addW 1 x33 (fun x34 => load1W x34 (fun x35 => binIntW .add x35 (Value.int .i64 2) (fun x36 => CP Tryz.prog Fn.draft_Draft_Place [a0, x36] (fun x37 => nilW x3 (fun x38 => addW 2 x38 (fun x39 => storeW 1 x39 x32 (fun _ => nilW x3 (fun x41 => addW 3 x41 (fun x42 => storeW 1 x42 x37 (fun _ => K x3))))))))))))) (fun j1 => condP x30 (CP Tryz.prog Fn.draft_Draft_Fail [a0, (Value.int .i64 2)] (fun x44 => j1 (Value.int .u64 2))) (j1 x20)))))))))))))))))))))))))))))))))

/-- draft_Draft_OK -/
def S_draft_Draft_OK (a0 : Value) (K : KV) : World → Prop :=
  nilW a0 (fun x1 => addW 1 x1 (fun x2 => load1W x2 (fun x3 => binIntW .eql x3 (Value.int .i64 0) (fun x4 => K x4))))

/-- table_made -/
def S_table_made (a0 a1 : Value) (K : KV) : World → Prop :=
  CP Tryz.prog Fn.draft_Draft_Alloc [a0, (Value.int .i64 3)] (fun x1 => CP Tryz.prog Fn.draft_Draft_Alloc [a0, (Value.int .i64 2)] (fun x2 => buildW [(Value.pointer none), (Value.int .i64 0), (Value.int .i64 0), (Value.int .i64 0), (Value.int .u64 0)] [(0, 1, a0), (1, 1, x1), (2, 1, (Value.int .i64 2)), (3, 1, x2)] (fun x3 => boxW x3 (fun x4 => loopW1 (Value.int .i64 0) (fun J1 x5 => binIntW .lss x5 (Value.int .i64 2) (fun x6 => condP x6 (nilW x4 (fun x7 => addW 3 x7 (fun x8 => load1W x8 (fun x9 => binIntW .add x9 x5 (fun x10 => CP Tryz.prog Fn.draft_Draft_Point [a0, x10, (Value.int .i64 0)] (fun x11 => binIntW .add x5 (Value.int .i64 1) (fun x12 => J1 x12))))))) (nilW x4 (fun x13 => addW 1 x13 (fun x14 => load1W x14 (fun x15 => binIntW .add x15 (Value.int .i64 0) (fun x16 => CP Tryz.prog Fn.draft_Draft_Point [a0, x16, (Value.int .i64 0)] (fun x17 => nilW x4 (fun x18 => addW 1 x18 (fun x19 => load1W x19 (fun x20 => binIntW .add x20 (Value.int .i64 1) (fun x21 => CP Tryz.prog Fn.draft_Draft_Point [a0, x21, (Value.int .i64 2)] (fun x22 => drewW (nilW x4 (fun x23 => addW 1 x23 (fun x24 => load1W x24 (fun x25 => binIntW .add x25 (Value.int .i64 2) (fun x26 => nilW x4 (fun x27 => addW 3 x27 (fun x28 => load1W x28 (fun x29 => CP Tryz.prog Fn.draft_Draft_Point [a0, x26, x29] (fun x30 => andP (andP (trueP) (andP (trueP) (trueP))) (nilW x4 (fun x31 => addW 1 x31 (fun x32 => load1W x32 (fun x33 => CP Tryz.prog Fn.draft_Draft_Point [a0, a1, x33] (fun x34 => K x4)))))))))))))))))))))))))))))))

/-- table_table_seek -/
def S_table_table_seek (a0 a1 : Value) (K : KV) : World → Prop :=
  drewW (nilW a0 (fun x1 => addW 3 x1 (fun x2 => load1W x2 (fun x3 => nilW a0 (fun x4 => addW 2 x4 (fun x5 => load1W x5 (fun x6 => CP Tryz.prog Fn.table_chain [a1, x6] (fun x7 => andP (andP (trueP) (andP (load1W x2 (fun v => eqP v x3)) (trueP))) (binIntW .add x3 x7 (fun x8 => loopW1 x8 (fun J1 x9 => nilW a0 (fun x10 => addW 0 x10 (fun x11 => load1W x11 (fun x12 => CP Tryz.prog Fn.draft_Draft_Step [x12] (fun x13 => condP x13 (nilW a0 (fun x14 => addW 0 x14 (fun x15 => load1W x15 (fun x16 => CP Tryz.prog Fn.draft_Draft_Place [x16, x9] (fun x17 => binIntW .eql x17 (Value.int .i64 0) (fun x18 => gW x18 false (fun K => K a0) (fun x19 => gW x18 false (fun K => nilW x19 K) (fun x20 => gW x18 false (fun K => addW 0 x20 K) (fun x21 => gW x18 false (fun K => load1W x21 K) (fun x22 => gW x18 false (fun K => K x17) (fun x23 => gW x18 false (fun K => binIntW .add x23 (Value.int .i64 0) K) (fun x24 => gW x18 false (fun K => CP Tryz.prog Fn.draft_Draft_Read [x22, x24] K) (fun x25 => gW x18 false (fun K => K a1) (fun x26 => gW x18 false (fun K => binIntW .eql x25 x26 K) (fun x27 => pickW x18 (Value.bool true) x27 (fun x28 => condP x28 (K (Value.tuple #[x9, x17])) (binIntW .add x17 (Value.int .i64 2) (fun x29 => J1 x29)))))))))))))))))) (K (Value.tuple #[x9, (Value.int .i64 0)])))))))))))))))))

/-- draft_Draft_Write -/
def S_draft_Draft_Write (a0 a1 a2 : Value) (K : KV) : World → Prop :=
  CP Tryz.prog Fn.draft_Draft_OK [a0] (fun x1 => joinW0 (K (Value.tuple #[])) (fun j1 => condP x1 (nilW a0 (fun x2 => addW 0 x2 (fun x3 => load1W x3 (fun x4 => CP Tryz.prog Fn.view_View_Write [x4, a1, a2] (fun x5 => CP Tryz.prog Fn.draft_Draft_Fail [a0, x5] (fun x6 => j1)))))) (j1)))

/-- table_table_grow -/
def S_table_table_grow (a0 : Value) (K : KV) : World → Prop :=
  boxW a0 (fun x1 => load1W x1 (fun x2 => nilW x2 (fun x3 => addW 2 x3 (fun x4 => load1W x4 (fun x5 => binIntW .mul (Value.int .i64 2) x5 (fun x6 => newW #[(Value.int .i64 0)] (fun x7 => storeW 1 x7 x6 (fun _ => load1W x7 (fun x9 => makeSliceW 8 [(Value.int .i64 0)] x9 x9 (fun x10 => newW #[(Value.slice none 0 0)] (fun x11 => storeW 1 x11 x10 (fun _ => drewW (load1W x1 (fun x13 => nilW x13 (fun x14 => addW 0 x14 (fun x15 => load1W x15 (fun x16 => load1W x7 (fun x17 => CP Tryz.prog Fn.draft_Draft_Alloc [x16, x17] (fun x18 => andP (andP (trueP) (andP (trueP) (andP (trueP) (trueP)))) (load1W x1 (fun x19 => CP Tryz.prog Fn.table_table_each [x19, (Value.func (.func Fn.table_table_grow_1) #[] #[x1, x7, x11])] (fun x20 => load1W x11 (fun x21 => lenW x21 (fun x22 => loopW1 (Value.int .i64 0) (fun J1 x23 => binIntW .lss x23 x22 (fun x24 => condP x24 (idxW 1 x21 x23 (fun x25 => load1W x25 (fun x26 => load1W x1 (fun x27 => nilW x27 (fun x28 => addW 0 x28 (fun x29 => load1W x29 (fun x30 => binIntW .add x18 x23 (fun x31 => CP Tryz.prog Fn.draft_Draft_Point [x30, x31, x26] (fun x32 => binIntW .add x23 (Value.int .i64 1) (fun x33 => J1 x33)))))))))) (drewW (load1W x1 (fun x34 => nilW x34 (fun x35 => addW 0 x35 (fun x36 => load1W x36 (fun x37 => load1W x1 (fun x38 => nilW x38 (fun x39 => addW 3 x39 (fun x40 => load1W x40 (fun x41 => CP Tryz.prog Fn.draft_Draft_Free [x37, x41] (fun x42 => andP (andP (trueP) (andP (trueP) (andP (trueP) (andP (trueP) (trueP))))) (drewW (load1W x1 (fun x43 => load1W x1 (fun x44 => load1W x7 (fun x45 => nilW x43 (fun x46 => addW 2 x46 (fun x47 => storeW 1 x47 x45 (fun _ => andP (andP (trueP) (andP (load1W x1 (fun v => eqP v x44)) (andP (trueP) (trueP)))) (nilW x44 (fun x49 => addW 3 x49 (fun x50 => storeW 1 x50 x18 (fun _ => andP (andP (trueP) (trueP)) (drewW (load1W x1 (fun x52 => nilW x52 (fun x53 => addW 0 x53 (fun x54 => load1W x54 (fun x55 => load1W x1 (fun x56 => nilW x56 (fun x57 => addW 1 x57 (fun x58 => load1W x58 (fun x59 => binIntW .add x59 (Value.int .i64 1) (fun x60 => load1W x7 (fun x61 => CP Tryz.prog Fn.draft_Draft_Point [x55, x60, x61] (fun x62 => andP (andP (trueP) (andP (trueP) (andP (trueP) (andP (trueP) (andP (trueP) (trueP)))))) (drewW (load1W x1 (fun x63 => nilW x63 (fun x64 => addW 0 x64 (fun x65 => load1W x65 (fun x66 => load1W x1 (fun x67 => nilW x67 (fun x68 => addW 1 x68 (fun x69 => load1W x69 (fun x70 => binIntW .add x70 (Value.int .i64 2) (fun x71 => CP Tryz.prog Fn.draft_Draft_Point [x66, x71, x18] (fun x72 => andP (andP (trueP) (andP (trueP) (andP (trueP) (andP (trueP) (trueP))))) (K (Value.tuple #[]))))))))))))))))))))))))))))))))))))))))))))))))))))))))))))))))))))))))))))

/-- draft_Draft_Alloc -/
def S_draft_Draft_Alloc (a0 a1 : Value) (K : KV) : World → Prop :=
  CP Tryz.prog Fn.draft_Draft_OK [a0] (fun x1 => notW x1 (fun x2 => condP x2 (K (Value.int .i64 0)) (nilW a0 (fun x3 => addW 0 x3 (fun x4 => load1W x4 (fun x5 => CP Tryz.prog Fn.arena_Alloc [x5, a1] (fun x6 => extractW 0 x6 (fun x7 => extractW 1 x6 (fun x8 => CP Tryz.prog Fn.draft_Draft_Fail [a0, x8] (fun x9 => K x7))))))))))

/-- draft_Draft_Point -/
def S_draft_Draft_Point (a0 a1 a2 : Value) (K : KV) : World → Prop :=
  convW .u64 a2 (fun x1 => CP Tryz.prog Fn.draft_Draft_Write [a0, a1, x1] (fun x2 => K (Value.tuple #[])))

/-- table_Get_1 -/
def S_table_Get_1 (a0 a1 a2 a3 a4 : Value) (K : KV) : World → Prop :=
  load1W a1 (fun x1 => CP Tryz.prog Fn.table_open [a0, x1] (fun x2 => CP Tryz.prog Fn.draft_Draft_OK [a0] (fun x3 => notW x3 (fun x4 => gW x4 false (fun K => K x2) (fun x5 => gW x4 false (fun K => nilW x5 K) (fun x6 => gW x4 false (fun K => addW 1 x6 K) (fun x7 => gW x4 false (fun K => load1W x7 K) (fun x8 => gW x4 false (fun K => binIntW .eql x8 (Value.int .i64 0) K) (fun x9 => pickW x4 (Value.bool true) x9 (fun x10 => condP x10 (K (Value.tuple #[])) (load1W a2 (fun x11 => CP Tryz.prog Fn.table_table_seek [x2, x11] (fun x12 => extractW 0 x12 (fun x13 => extractW 1 x12 (fun x14 => binIntW .neq x14 (Value.int .i64 0) (fun x15 => joinW0 (K (Value.tuple #[])) (fun j1 => condP x15 (binIntW .add x14 (Value.int .i64 1) (fun x16 => CP Tryz.prog Fn.draft_Draft_Read [a0, x16] (fun x17 => storeW 1 a3 x17 (fun _ => storeW 1 a4 (Value.bool true) (fun _ => j1))))) (j1))))))))))))))))))

/-- draft_Draft_Read -/
def S_draft_Draft_Read (a0 a1 : Value) (K : KV) : World → Prop :=
  CP Tryz.prog Fn.draft_Draft_OK [a0] (fun x1 => notW x1 (fun x2 => condP x2 (K (Value.int .u64 0)) (nilW a0 (fun x3 => addW 0 x3 (fun x4 => load1W x4 (fun x5 => CP Tryz.prog Fn.view_View_Read [x5, a1] (fun x6 => extractW 0 x6 (fun x7 => extractW 1 x6 (fun x8 => CP Tryz.prog Fn.draft_Draft_Fail [a0, x8] (fun x9 => K x7))))))))))

/-- table_All_1 -/
def S_table_All_1 (a0 a1 a2 : Value) (K : KV) : World → Prop :=
  boxW a0 (fun x1 => load1W x1 (fun x2 => load1W a1 (fun x3 => CP Tryz.prog Fn.table_open [x2, x3] (fun x4 => load1W x1 (fun x5 => CP Tryz.prog Fn.draft_Draft_OK [x5] (fun x6 => notW x6 (fun x7 => gW x7 false (fun K => K x4) (fun x8 => gW x7 false (fun K => nilW x8 K) (fun x9 => gW x7 false (fun K => addW 1 x9 K) (fun x10 => gW x7 false (fun K => load1W x10 K) (fun x11 => gW x7 false (fun K => binIntW .eql x11 (Value.int .i64 0) K) (fun x12 => pickW x7 (Value.bool true) x12 (fun x13 => condP x13 (K (Value.tuple #[])) (CP Tryz.prog Fn.table_table_each [x4, (Value.func (.func Fn.table_All_1_1) #[] #[a2, x1])] (fun x14 => K (Value.tuple #[]))))))))))))))))

/-- table_table_each -/
def S_table_table_each (a0 a1 : Value) (K : KV) : World → Prop :=
  nilW a0 (fun x1 => addW 2 x1 (fun x2 => load1W x2 (fun x3 => loopW1 (Value.int .i64 0) (fun J1 x4 => binIntW .lss x4 x3 (fun x5 => condP x5 (drewW (nilW a0 (fun x6 => addW 0 x6 (fun x7 => load1W x7 (fun x8 => nilW a0 (fun x9 => addW 3 x9 (fun x10 => load1W x10 (fun x11 => binIntW .add x11 x4 (fun x12 => CP Tryz.prog Fn.draft_Draft_Place [x8, x12] (fun x13 => andP (andP (trueP) (andP (trueP) (trueP))) (loopW1 x13 (fun J2 x14 => binIntW .neq x14 (Value.int .i64 0) (fun x15 => gW x15 true (fun K => K a0) (fun x16 => gW x15 true (fun K => nilW x16 K) (fun x17 => gW x15 true (fun K => addW 0 x17 K) (fun x18 => gW x15 true (fun K => load1W x18 K) (fun x19 => gW x15 true (fun K => CP Tryz.prog Fn.draft_Draft_Step [x19] K) (fun x20 => pickW x15 x20 (Value.bool false) (fun x21 => condP x21 (nilW a0 (fun x22 => addW 0 x22 (fun x23 => load1W x23 (fun x24 => binIntW .add x14 (Value.int .i64 2) (fun x25 => CP Tryz.prog Fn.draft_Draft_Place [x24, x25] (fun x26 => dynW Tryz.prog a1 [x14] (fun x27 => J2 x26))))))) (binIntW .add x4 (Value.int .i64 1) (fun x28 => J1 x28))))))))))))))))))))) (K (Value.tuple #[])))))))

/-- table_All_1_1 -/
def S_table_All_1_1 (a0 a1 a2 : Value) (K : KV) : World → Prop :=
  drewW (load1W a1 (fun x1 => load1W a2 (fun x2 => binIntW .add a0 (Value.int .i64 0) (fun x3 => load1W a2 (fun x4 => binIntW .add a0 (Value.int .i64 1) (fun x5 => CP Tryz.prog Fn.draft_Draft_Read [x2, x3] (fun x6 => andP (andP (load1W a2 (fun v => eqP v x4)) (andP (trueP) (andP (load1W a1 (fun v => eqP v x1)) (trueP)))) (CP Tryz.prog Fn.draft_Draft_Read [x4, x5] (fun x7 => andP (andP (trueP) (andP (load1W a1 (fun v => eqP v x1)) (trueP))) (buildW [(Value.int .u64 0), (Value.int .u64 0)] [(0, 1, x6), (1, 1, x7)] (fun x8 => buildSliceW [(Value.int .u64 0), (Value.int .u64 0)] 1 [(0, 2, x8)] (fun x9 => andP (andP (load1W a1 (fun v => eqP v x1)) (trueP)) (appendW 2 16 x1 x9 (fun x10 => andP (andP (trueP) (trueP)) (storeW 1 a1 x10 (fun _ => andP (trueP) (K (Value.tuple #[]))))))))))))))))))

/-- slices_SortFunc_api_Pair_api_Pair -/
def S_slices_SortFunc_api_Pair_api_Pair (a0 a1 : Value) (K : KV) : World → Prop :=
  lenW a0 (fun x1 => convW .u64 x1 (fun x2 => CP Tryz.prog Fn.math_bits_Len [x2] (fun x3 => CP Tryz.prog Fn.slices_pdqsortCmpFunc_api_Pair [a0, (Value.int .i64 0), x1, x3, a1] (fun x4 => K (Value.tuple #[])))))

/-- table_All_2 -/
def S_table_All_2 (a0 a1 : Value) (K : KV) : World → Prop :=
  boxW a0 (fun x1 => boxW a1 (fun x2 => addW 0 x1 (fun x3 => load1W x3 (fun x4 => addW 0 x2 (fun x5 => load1W x5 (fun x6 => CP Tryz.prog Fn.cmp_Compare_uint64 [x4, x6] (fun x7 => K x7)))))))

/-- cmp_Compare_uint64 -/
def S_cmp_Compare_uint64 (a0 a1 : Value) (K : KV) : World → Prop :=
  CP Tryz.prog Fn.cmp_isNaN_uint64 [a0] (fun x1 => CP Tryz.prog Fn.cmp_isNaN_uint64 [a1] (fun x2 => condP x1 (condP x2 (K (Value.int .i64 0)) (K (Value.int .i64 (-1)))) (condP x2 (K (Value.int .i64 1)) (binIntW .lss a0 a1 (fun x3 => condP x3 (K (Value.int .i64 (-1))) (binIntW .gtr a0 a1 (fun x4 => condP x4 (K (Value.int .i64 1)) (K (Value.int .i64 0)))))))))

/-- keep_Objects_Put -/
def S_keep_Objects_Put (a0 a1 a2 a3 : Value) (K : KV) : World → Prop :=
  CP Tryz.prog Fn.keep_Objects_Find [a0, a1, a2] (fun x1 => extractW 0 x1 (fun x2 => extractW 1 x1 (fun x3 => condP x3 (nilW a0 (fun x4 => addW 0 x4 (fun x5 => idxArrW 8 1 x5 a1 (fun x6 => load1W x6 (fun x7 => idxW 2 x7 x2 (fun x8 => addW 1 x8 (fun x9 => storeW 1 x9 a3 (fun _ => K (Value.bool false))))))))) (nilW a0 (fun x11 => addW 0 x11 (fun x12 => idxArrW 8 1 x12 a1 (fun x13 => load1W x13 (fun x14 => sliceW 2 x14 none (some x2) (fun x15 => appendW 2 16 (Value.slice none 0 0) x15 (fun x16 => buildW [(Value.int .u64 0), (Value.int .u64 0)] [(0, 1, a2), (1, 1, a3)] (fun x17 => buildSliceW [(Value.int .u64 0), (Value.int .u64 0)] 1 [(0, 2, x17)] (fun x18 => appendW 2 16 x16 x18 (fun x19 => drewW (nilW a0 (fun x20 => addW 0 x20 (fun x21 => idxArrW 8 1 x21 a1 (fun x22 => load1W x22 (fun x23 => sliceW 2 x23 (some x2) none (fun x24 => nilW a0 (fun x25 => addW 0 x25 (fun x26 => appendW 2 16 x19 x24 (fun x27 => andP (andP (trueP) (trueP)) (idxArrW 8 1 x26 a1 (fun x28 => storeW 1 x28 x27 (fun _ => andP (trueP) (K (Value.bool true)))))))))))))))))))))))))))

/-- keep_Objects_Del -/
def S_keep_Objects_Del (a0 a1 a2 : Value) (K : KV) : World → Prop :=
  CP Tryz.prog Fn.keep_Objects_Find [a0, a1, a2] (fun x1 => extractW 0 x1 (fun x2 => extractW 1 x1 (fun x3 => notW x3 (fun x4 => condP x4 (K (Value.bool false)) (nilW a0 (fun x5 => addW 0 x5 (fun x6 => idxArrW 8 1 x6 a1 (fun x7 => load1W x7 (fun x8 => sliceW 2 x8 none (some x2) (fun x9 => appendW 2 16 (Value.slice none 0 0) x9 (fun x10 => drewW (nilW a0 (fun x11 => addW 0 x11 (fun x12 => idxArrW 8 1 x12 a1 (fun x13 => load1W x13 (fun x14 => binIntW .add x2 (Value.int .i64 1) (fun x15 => sliceW 2 x14 (some x15) none (fun x16 => nilW a0 (fun x17 => addW 0 x17 (fun x18 => appendW 2 16 x10 x16 (fun x19 => andP (andP (trueP) (trueP)) (idxArrW 8 1 x18 a1 (fun x20 => storeW 1 x20 x19 (fun _ => andP (trueP) (K (Value.bool true))))))))))))))))))))))))))

/-- keep_Objects_Find -/
def S_keep_Objects_Find (a0 a1 a2 : Value) (K : KV) : World → Prop :=
  loopW1 (Value.int .i64 0) (fun J1 x1 => nilW a0 (fun x2 => addW 0 x2 (fun x3 => idxArrW 8 1 x3 a1 (fun x4 => load1W x4 (fun x5 => lenW x5 (fun x6 => binIntW .lss x1 x6 (fun x7 => gW x7 true (fun K => K a0) (fun x8 => gW x7 true (fun K => K a1) (fun x9 => gW x7 true (fun K => nilW x8 K) (fun x10 => gW x7 true (fun K => addW 0 x10 K) (fun x11 => gW x7 true (fun K => idxArrW 8 1 x11 x9 K) (fun x12 => gW x7 true (fun K => load1W x12 K) (fun x13 => gW x7 true (fun K => K x1) (fun x14 => gW x7 true (fun K => idxW 2 x13 x14 K) (fun x15 => gW x7 true (fun K => addW 0 x15 K) (fun x16 => gW x7 true (fun K => load1W x16 K) (fun x17 => gW x7 true (fun K => K a2) (fun x18 => gW x7 true (fun K => binIntW .lss x17 x18 K) (fun x19 => pickW x7 x19 (Value.bool false) (fun x20 => condP x20 (binIntW .add x1 (Value.int .i64 1) (fun x21 => J1 x21)) (drewW (nilW a0 (fun x22 => addW 0 x22 (fun x23 => idxArrW 8 1 x23 a1 (fun x24 => load1W x24 (fun x25 => lenW x25 (fun x26 => binIntW .lss x1 x26 (fun x27 => gW x27 true (fun K => K a0) (fun x28 => gW x27 true (fun K => K a1) (fun x29 => gW x27 true (fun K => nilW x28 K) (fun x30 => gW x27 true (fun K => addW 0 x30 K) (fun x31 => gW x27 true (fun K => idxArrW 8 1 x31 x29 K) (fun x32 => gW x27 true (fun K => load1W x32 K) (fun x33 => gW x27 true (fun K => K x1) (fun x34 => gW x27 true (fun K => idxW 2 x33 x34 K) (fun x35 => gW x27 true (fun K => addW 0 x35 K) (fun x36 => gW x27 true (fun K => load1W x36 K) (fun x37 => gW x27 true (fun K => K a2) (fun x38 => gW x27 true (fun K => binIntW .eql x37 x38 K) (fun x39 => pickW x27 x39 (Value.bool false) (fun x40 => K (Value.tuple #[x1, x40]))))))))))))))))))))))))))))))))))))))))))

/-- keep_Objects_Count -/
def S_keep_Objects_Count (a0 a1 a2 a3 : Value) (K : KV) : World → Prop :=
  loopW2 (Value.int .i64 0) (Value.int .i64 0) (fun J1 x1 x2 => nilW a0 (fun x3 => addW 0 x3 (fun x4 => idxArrW 8 1 x4 a1 (fun x5 => load1W x5 (fun x6 => lenW x6 (fun x7 => binIntW .lss x2 x7 (fun x8 => condP x8 (nilW a0 (fun x9 => addW 0 x9 (fun x10 => idxArrW 8 1 x10 a1 (fun x11 => load1W x11 (fun x12 => idxW 2 x12 x2 (fun x13 => addW 0 x13 (fun x14 => load1W x14 (fun x15 => binIntW .geq x15 a2 (fun x16 => gW x16 true (fun K => K a0) (fun x17 => gW x16 true (fun K => K a1) (fun x18 => gW x16 true (fun K => nilW x17 K) (fun x19 => gW x16 true (fun K => addW 0 x19 K) (fun x20 => gW x16 true (fun K => idxArrW 8 1 x20 x18 K) (fun x21 => gW x16 true (fun K => load1W x21 K) (fun x22 => gW x16 true (fun K => K x2) (fun x23 => gW x16 true (fun K => idxW 2 x22 x23 K) (fun x24 => gW x16 true (fun K => addW 0 x24 K) (fun x25 => gW x16 true (fun K => load1W x25 K) (fun x26 => gW x16 true (fun K => K a3) (fun x27 => gW x16 true (fun K => binIntW .leq x26 x27 K) (fun x28 => pickW x16 x28 (Value.bool false) (fun x29 => joinW1 (fun x30 => binIntW .add x2 (Value.int .i64 1) (fun x31 => J1 x30 x31)) (fun j1 => condP x29 (binIntW .add x1 (Value.int .i64 1) (fun x32 => j1 x32)) (j1 x1)))))))))))))))))))))))) (K x1))))))))

/-- ref21_Apply -/
def S_ref21_Apply (a0 a1 : Value) (K : KV) : World → Prop :=
  CP Tryz.prog Fn.ref7_Whole [a0, (Value.int .i64 0)] (fun x1 => nilW x1 (fun x2 => addW 0 x2 (fun x3 => load1W x3 (fun x4 => makeSliceW 8 [(Value.int .u64 0)] x4 x4 (fun x5 => loopW1 (Value.int .i64 0) (fun J1 x6 => nilW x1 (fun x7 => addW 1 x7 (fun x8 => load1W x8 (fun x9 => lenW x9 (fun x10 => binIntW .lss x6 x10 (fun x11 => condP x11 (drewW (nilW x1 (fun x12 => addW 1 x12 (fun x13 => load1W x13 (fun x14 => idxW 2 x14 x6 (fun x15 => addW 0 x15 (fun x16 => load1W x16 (fun x17 => nilW x1 (fun x18 => addW 1 x18 (fun x19 => load1W x19 (fun x20 => idxW 2 x20 x6 (fun x21 => addW 1 x21 (fun x22 => load1W x22 (fun x23 => idxW 1 x5 x17 (fun x24 => storeW 1 x24 x23 (fun _ => andP (andP (trueP) (andP (trueP) (andP (trueP) (andP (trueP) (trueP))))) (binIntW .add x6 (Value.int .i64 1) (fun x26 => J1 x26)))))))))))))))))) (loopW1 (Value.int .i64 0) (fun J2 x27 => lenW a1 (fun x28 => binIntW .lss x27 x28 (fun x29 => condP x29 (idxW 2 a1 x27 (fun x30 => addW 0 x30 (fun x31 => load1W x31 (fun x32 => CP Tryz.prog Fn.ref7_View_In [x1, x32] (fun x33 => joinW0 (binIntW .add x27 (Value.int .i64 1) (fun x34 => J2 x34)) (fun j1 => condP x33 (drewW (idxW 2 a1 x27 (fun x35 => addW 0 x35 (fun x36 => load1W x36 (fun x37 => idxW 2 a1 x27 (fun x38 => addW 1 x38 (fun x39 => load1W x39 (fun x40 => idxW 1 x5 x37 (fun x41 => storeW 1 x41 x40 (fun _ => andP (andP (trueP) (andP (trueP) (trueP))) (j1))))))))))) (j1))))))) (K x5))))))))))))))))

/-- arena_Give -/
def S_arena_Give (a0 a1 : Value) (K : KV) : World → Prop :=
  CP Tryz.prog Fn.arena_asked [a0, a1] (fun x1 => extractW 0 x1 (fun x2 => extractW 1 x1 (fun x3 => extractW 2 x1 (fun x4 => binIntW .eql x4 (Value.int .i64 0) (fun x5 => gW x5 true (fun K => K x3) (fun x6 => pickW x5 x6 (Value.bool false) (fun x7 => joinW1 (fun x8 => binIntW .neq x8 (Value.int .i64 0) (fun x9 => condP x9 (K x8) (CP Tryz.prog Fn.arena_head [x2] (fun x10 => CP Tryz.prog Fn.view_View_Read [a0, x10] (fun x11 => extractW 0 x11 (fun x12 => extractW 1 x11 (fun x13 => binIntW .neq x13 (Value.int .i64 0) (fun x14 => condP x14 (K x13) (buildW [(Value.int .i64 0), (Value.int .u64 0)] [(0, 1, a1), (1, 1, x12)] (fun x15 => CP Tryz.prog Fn.arena_head [x2] (fun x16 => convW .u64 a1 (fun x17 => buildW [(Value.int .i64 0), (Value.int .u64 0)] [(0, 1, x16), (1, 1, x17)] (fun x18 => buildSliceW [(Value.int .i64 0), (Value.int .u64 0)] 2 [(0, 2, x15), (2, 2, x18)] (fun x19 => CP Tryz.prog Fn.view_View_Take [a0, x19] (fun x20 => K x20))))))))))))))) (fun j1 => condP x7 (j1 (Value.int .i64 2)) (j1 x4)))))))))

/-- table_Len -/
def S_table_Len (a0 a1 : Value) (K : KV) : World → Prop :=
  boxW a1 (fun x1 => newW #[(Value.int .i64 0)] (fun x2 => storeW 1 x2 (Value.int .i64 0) (fun _ => load1W x1 (fun x4 => CP Tryz.prog Fn.draft_Do [a0, x4, (Value.func (.func Fn.table_Len_1) #[] #[x1, x2])] (fun x5 => binIntW .neq x5 (Value.int .i64 0) (fun x6 => condP x6 (K (Value.tuple #[(Value.int .i64 0), x5])) (load1W x2 (fun x7 => K (Value.tuple #[x7, (Value.int .i64 0)])))))))))

/-- levels_fresh -/
def S_levels_fresh (K : KV) : World → Prop :=
  CP Tryz.prog Fn.writes_New [(Value.int .i64 96)] (fun x1 => buildW [(Value.pointer none), (Value.slice none 0 0)] [(0, 1, x1)] (fun x2 => boxW x2 (fun x3 => K x3)))

/-- table_Del_1 -/
def S_table_Del_1 (a0 a1 a2 a3 : Value) (K : KV) : World → Prop :=
  load1W a1 (fun x1 => CP Tryz.prog Fn.table_open [a0, x1] (fun x2 => CP Tryz.prog Fn.draft_Draft_OK [a0] (fun x3 => notW x3 (fun x4 => gW x4 false (fun K => K x2) (fun x5 => gW x4 false (fun K => nilW x5 K) (fun x6 => gW x4 false (fun K => addW 1 x6 K) (fun x7 => gW x4 false (fun K => load1W x7 K) (fun x8 => gW x4 false (fun K => binIntW .eql x8 (Value.int .i64 0) K) (fun x9 => pickW x4 (Value.bool true) x9 (fun x10 => condP x10 (K (Value.tuple #[])) (load1W a2 (fun x11 => CP Tryz.prog Fn.table_table_seek [x2, x11] (fun x12 => extractW 0 x12 (fun x13 => extractW 1 x12 (fun x14 => binIntW .neq x14 (Value.int .i64 0) (fun x15 => joinW0 (K (Value.tuple #[])) (fun j1 => condP x15 (binIntW .add x14 (Value.int .i64 2) (fun x16 => CP Tryz.prog Fn.draft_Draft_Read [a0, x16] (fun x17 => CP Tryz.prog Fn.draft_Draft_Write [a0, x13, x17] (fun x18 => drewW (nilW x2 (fun x19 => addW 1 x19 (fun x20 => load1W x20 (fun x21 => binIntW .add x21 (Value.int .i64 0) (fun x22 => nilW x2 (fun x23 => addW 4 x23 (fun x24 => load1W x24 (fun x25 => binIntW .sub x25 (Value.int .u64 1) (fun x26 => CP Tryz.prog Fn.draft_Draft_Write [a0, x22, x26] (fun x27 => andP (andP (trueP) (andP (trueP) (trueP))) (CP Tryz.prog Fn.draft_Draft_Free [a0, x14] (fun x28 => storeW 1 a3 (Value.bool true) (fun _ => j1))))))))))))))))) (j1))))))))))))))))))

/-- draft_Draft_Free -/
def S_draft_Draft_Free (a0 a1 : Value) (K : KV) : World → Prop :=
  CP Tryz.prog Fn.draft_Draft_OK [a0] (fun x1 => joinW0 (K (Value.tuple #[])) (fun j1 => condP x1 (nilW a0 (fun x2 => addW 0 x2 (fun x3 => load1W x3 (fun x4 => CP Tryz.prog Fn.arena_Free [x4, a1] (fun x5 => CP Tryz.prog Fn.draft_Draft_Fail [a0, x5] (fun x6 => j1)))))) (j1)))

/-- slices_Backward_levels_level_levels_level -/
def S_slices_Backward_levels_level_levels_level (a0 : Value) (K : KV) : World → Prop :=
  boxW a0 (fun x1 => K (Value.func (.func Fn.slices_Backward_levels_level_levels_level_1) #[] #[x1]))

/-- writes_New -/
def S_writes_New (a0 : Value) (K : KV) : World → Prop :=
  minW a0 [(Value.int .i64 96)] (fun x1 => maxW (Value.int .i64 0) [x1] (fun x2 => buildW [(Value.int .i64 0), (Value.slice none 0 0)] [(0, 1, x2)] (fun x3 => boxW x3 (fun x4 => K x4))))

/-- writes_Writes_Take -/
def S_writes_Writes_Take (a0 a1 : Value) (K : KV) : World → Prop :=
  CP Tryz.prog Fn.writes_Writes_All [a0] (fun x1 => lenW a1 (fun x2 => loopW1 (Value.int .i64 0) (fun J1 x3 => binIntW .lss x3 x2 (fun x4 => condP x4 (idxW 2 a1 x3 (fun x5 => loadNW 2 x5 (fun x6 => newW #[(Value.int .i64 0), (Value.int .u64 0)] (fun x7 => storeW 2 x7 x6 (fun _ => addW 0 x7 (fun x9 => load1W x9 (fun x10 => addW 1 x7 (fun x11 => load1W x11 (fun x12 => CP Tryz.prog Fn.writes_Writes_Put [a0, x10, x12] (fun x13 => binIntW .neq x13 (Value.int .i64 0) (fun x14 => condP x14 (nilW a0 (fun x15 => addW 1 x15 (fun x16 => storeW 1 x16 x1 (fun _ => K x13)))) (binIntW .add x3 (Value.int .i64 1) (fun x18 => J1 x18))))))))))))) (K (Value.int .i64 0))))))

/-- writes_Writes_All -/
def S_writes_Writes_All (a0 : Value) (K : KV) : World → Prop :=
  nilW a0 (fun x1 => addW 1 x1 (fun x2 => load1W x2 (fun x3 => CP Tryz.prog Fn.slices_Clone_api_Cell_api_Cell [x3] (fun x4 => K x4))))

/-- slices_Index_int_int -/
def S_slices_Index_int_int (a0 a1 : Value) (K : KV) : World → Prop :=
  lenW a0 (fun x1 => loopW1 (Value.int .i64 0) (fun J1 x2 => binIntW .lss x2 x1 (fun x3 => condP x3 (idxW 1 a0 x2 (fun x4 => load1W x4 (fun x5 => binIntW .eql a1 x5 (fun x6 => condP x6 (K x2) (binIntW .add x2 (Value.int .i64 1) (fun x7 => J1 x7)))))) (K (Value.int .i64 (-1))))))

/-- math_bits_Len -/
def S_math_bits_Len (a0 : Value) (K : KV) : World → Prop :=
  condP (Value.bool false) (convW .u32 a0 (fun x1 => CP Tryz.prog Fn.math_bits_Len32 [x1] (fun x2 => K x2))) (CP Tryz.prog Fn.math_bits_Len64 [a0] (fun x3 => K x3))

/-- draft_of -/
def S_draft_of (a0 : Value) (K : KV) : World → Prop :=
  CP Tryz.prog Fn.view_View_Size [a0] (fun x1 => CP Tryz.prog Fn.view_New [x1, (Value.int .i64 96)] (fun x2 => CP Tryz.prog Fn.view_View_Cells [a0] (fun x3 => lenW x3 (fun x4 => loopW1 (Value.int .i64 0) (fun J1 x5 => binIntW .lss x5 x4 (fun x6 => condP x6 (idxW 2 x3 x5 (fun x7 => loadNW 2 x7 (fun x8 => newW #[(Value.int .i64 0), (Value.int .u64 0)] (fun x9 => storeW 2 x9 x8 (fun _ => addW 0 x9 (fun x11 => load1W x11 (fun x12 => addW 1 x9 (fun x13 => load1W x13 (fun x14 => CP Tryz.prog Fn.view_View_Know [x2, x12, x14] (fun x15 => binIntW .add x5 (Value.int .i64 1) (fun x16 => J1 x16))))))))))) (CP Tryz.prog Fn.view_View_Known [a0] (fun x17 => lenW x17 (fun x18 => loopW1 (Value.int .i64 0) (fun J2 x19 => binIntW .lss x19 x18 (fun x20 => condP x20 (idxW 2 x17 x19 (fun x21 => loadNW 2 x21 (fun x22 => newW #[(Value.int .i64 0), (Value.int .u64 0)] (fun x23 => storeW 2 x23 x22 (fun _ => addW 0 x23 (fun x25 => load1W x25 (fun x26 => addW 1 x23 (fun x27 => load1W x27 (fun x28 => CP Tryz.prog Fn.view_View_Know [x2, x26, x28] (fun x29 => binIntW .add x19 (Value.int .i64 1) (fun x30 => J2 x30))))))))))) (K x2))))))))))))

/-- view_View_Read -/
def S_view_View_Read (a0 a1 : Value) (K : KV) : World → Prop :=
  CP Tryz.prog Fn.view_View_is [a0, a1] (fun x1 => notW x1 (fun x2 => condP x2 (K (Value.tuple #[(Value.int .u64 0), (Value.int .i64 2)])) (nilW a0 (fun x3 => addW 2 x3 (fun x4 => load1W x4 (fun x5 => CP Tryz.prog Fn.levels_Levels_Get [x5, a1] (fun x6 => extractW 0 x6 (fun x7 => extractW 1 x6 (fun x8 => condP x8 (K (Value.tuple #[x7, (Value.int .i64 0)])) (nilW a0 (fun x9 => addW 0 x9 (fun x10 => load1W x10 (fun x11 => idxW 2 x11 a1 (fun x12 => loadNW 2 x12 (fun x13 => newW #[(Value.int .u64 0), (Value.bool false)] (fun x14 => storeW 2 x14 x13 (fun _ => addW 1 x14 (fun x16 => load1W x16 (fun x17 => condP x17 (addW 0 x14 (fun x18 => load1W x18 (fun x19 => K (Value.tuple #[x19, (Value.int .i64 0)])))) (nilW a0 (fun x20 => addW 3 x20 (fun x21 => storeW 1 x21 a1 (fun _ => K (Value.tuple #[(Value.int .u64 0), (Value.int .i64 11)]))))))))))))))))))))))))

/-- view_View_Take -/
def S_view_View_Take (a0 a1 : Value) (K : KV) : World → Prop :=
  lenW a1 (fun x1 => loopW1 (Value.int .i64 0) (fun J1 x2 => binIntW .lss x2 x1 (fun x3 => condP x3 (idxW 2 a1 x2 (fun x4 => loadNW 2 x4 (fun x5 => newW #[(Value.int .i64 0), (Value.int .u64 0)] (fun x6 => storeW 2 x6 x5 (fun _ => addW 0 x6 (fun x8 => load1W x8 (fun x9 => CP Tryz.prog Fn.view_View_is [a0, x9] (fun x10 => notW x10 (fun x11 => condP x11 (K (Value.int .i64 2)) (binIntW .add x2 (Value.int .i64 1) (fun x12 => J1 x12))))))))))) (nilW a0 (fun x13 => addW 2 x13 (fun x14 => load1W x14 (fun x15 => CP Tryz.prog Fn.levels_Levels_Take [x15, a1] (fun x16 => K x16))))))))

/-- view_View_Free -/
def S_view_View_Free (a0 a1 : Value) (K : KV) : World → Prop :=
  nilW a0 (fun x1 => addW 2 x1 (fun x2 => load1W x2 (fun x3 => CP Tryz.prog Fn.levels_Levels_Free [x3, a1] (fun x4 => K (Value.tuple #[])))))

/-- draft_Draft_Place -/
def S_draft_Draft_Place (a0 a1 : Value) (K : KV) : World → Prop :=
  CP Tryz.prog Fn.draft_Draft_Read [a0, a1] (fun x1 => CP Tryz.prog Fn.draft_Draft_Name [a0, x1] (fun x2 => K x2))

/-- draft_Draft_Fail -/
def S_draft_Draft_Fail (a0 a1 : Value) (K : KV) : World → Prop :=
  CP Tryz.prog Fn.draft_Draft_OK [a0] (fun x1 => joinW0 (K (Value.tuple #[])) (fun j1 => condP x1 (nilW a0 (fun x2 => addW 1 x2 (fun x3 => storeW 1 x3 a1 (fun _ => j1)))) (j1)))

/-- table_chain -/
def S_table_chain (a0 a1 : Value) (K : KV) : World → Prop :=
  binIntW .mul a0 (Value.int .u64 11400714819323198485) (fun x1 => binIntW .shr x1 (Value.int .u64 60) (fun x2 => convW .i64 x2 (fun x3 => binIntW .sub a1 (Value.int .i64 1) (fun x4 => binIntW .and x3 x4 (fun x5 => K x5)))))

/-- draft_Draft_Step -/
def S_draft_Draft_Step (a0 : Value) (K : KV) : World → Prop :=
  nilW a0 (fun x1 => addW 2 x1 (fun x2 => load1W x2 (fun x3 => binIntW .add x3 (Value.int .i64 1) (fun x4 => nilW a0 (fun x5 => addW 2 x5 (fun x6 => storeW 1 x6 x4 (fun _ => nilW a0 (fun x8 => addW 2 x8 (fun x9 => load1W x9 (fun x10 => binIntW .gtr x10 (Value.int .i64 2048) (fun x11 => joinW0 (CP Tryz.prog Fn.draft_Draft_OK [a0] (fun x12 => K x12)) (fun j1 => condP x11 (CP Tryz.prog Fn.draft_Draft_Fail [a0, (Value.int .i64 2)] (fun x13 => j1)) (j1)))))))))))))

/-- view_View_Write -/
def S_view_View_Write (a0 a1 a2 : Value) (K : KV) : World → Prop :=
  CP Tryz.prog Fn.view_View_is [a0, a1] (fun x1 => notW x1 (fun x2 => condP x2 (K (Value.int .i64 2)) (nilW a0 (fun x3 => addW 2 x3 (fun x4 => load1W x4 (fun x5 => CP Tryz.prog Fn.levels_Levels_Put [x5, a1, a2] (fun x6 => K x6)))))))

/-- table_table_grow_1 -/
def S_table_table_grow_1 (a0 a1 a2 a3 : Value) (K : KV) : World → Prop :=
  drewW (load1W a1 (fun x1 => nilW x1 (fun x2 => addW 0 x2 (fun x3 => load1W x3 (fun x4 => binIntW .add a0 (Value.int .i64 0) (fun x5 => load1W a2 (fun x6 => CP Tryz.prog Fn.draft_Draft_Read [x4, x5] (fun x7 => andP (andP (load1W a2 (fun v => eqP v x6)) (andP (trueP) (andP (trueP) (trueP)))) (CP Tryz.prog Fn.table_chain [x7, x6] (fun x8 => andP (andP (trueP) (trueP)) (drewW (load1W a1 (fun x9 => nilW x9 (fun x10 => addW 0 x10 (fun x11 => load1W x11 (fun x12 => binIntW .add a0 (Value.int .i64 2) (fun x13 => load1W a3 (fun x14 => idxW 1 x14 x8 (fun x15 => load1W x15 (fun x16 => CP Tryz.prog Fn.draft_Draft_Point [x12, x13, x16] (fun x17 => andP (andP (trueP) (andP (trueP) (andP (trueP) (andP (trueP) (trueP))))) (load1W a3 (fun x18 => idxW 1 x18 x8 (fun x19 => storeW 1 x19 a0 (fun _ => K (Value.tuple #[]))))))))))))))))))))))))))

/-- arena_Alloc -/
def S_arena_Alloc (a0 a1 : Value) (K : KV) : World → Prop :=
  CP Tryz.prog Fn.arena_Class [a1] (fun x1 => binIntW .eql x1 (Value.int .i64 0) (fun x2 => condP x2 (K (Value.tuple #[(Value.int .i64 0), (Value.int .i64 3)])) (CP Tryz.prog Fn.arena_head [x1] (fun x3 => CP Tryz.prog Fn.view_View_Read [a0, x3] (fun x4 => extractW 0 x4 (fun x5 => extractW 1 x4 (fun x6 => binIntW .neq x6 (Value.int .i64 0) (fun x7 => condP x7 (K (Value.tuple #[(Value.int .i64 0), x6])) (binIntW .neq x5 (Value.int .u64 0) (fun x8 => condP x8 (CP Tryz.prog Fn.arena_again [a0, x1, x5] (fun x9 => extractW 0 x9 (fun x10 => extractW 1 x9 (fun x11 => K (Value.tuple #[x10, x11]))))) (CP Tryz.prog Fn.arena_grown [a0, x1] (fun x12 => extractW 0 x12 (fun x13 => extractW 1 x12 (fun x14 => K (Value.tuple #[x13, x14])))))))))))))))

/-- cmp_isNaN_uint64 -/
def S_cmp_isNaN_uint64 (a0 : Value) (K : KV) : World → Prop :=
  binIntW .neq a0 a0 (fun x1 => K x1)

/-- ref7_Whole -/
def S_ref7_Whole (a0 a1 : Value) (K : KV) : World → Prop :=
  lenW a0 (fun x1 => CP Tryz.prog Fn.ref7_NewView [x1, a1] (fun x2 => loopW1 (Value.int .i64 1) (fun J1 x3 => nilW x2 (fun x4 => addW 0 x4 (fun x5 => load1W x5 (fun x6 => binIntW .lss x3 x6 (fun x7 => condP x7 (lenW a0 (fun x8 => binIntW .lss x3 x8 (fun x9 => joinW1 (fun x10 => nilW x2 (fun x11 => addW 1 x11 (fun x12 => load1W x12 (fun x13 => buildW [(Value.int .i64 0), (Value.int .u64 0)] [(0, 1, x3), (1, 1, x10)] (fun x14 => buildSliceW [(Value.int .i64 0), (Value.int .u64 0)] 1 [(0, 2, x14)] (fun x15 => appendW 2 16 x13 x15 (fun x16 => nilW x2 (fun x17 => addW 1 x17 (fun x18 => storeW 1 x18 x16 (fun _ => binIntW .add x3 (Value.int .i64 1) (fun x20 => J1 x20))))))))))) (fun j1 => condP x9 (idxW 1 a0 x3 (fun x21 => load1W x21 (fun x22 => j1 x22))) (j1 (Value.int .u64 0)))))) (K x2))))))))

/-- ref7_View_In -/
def S_ref7_View_In (a0 a1 : Value) (K : KV) : World → Prop :=
  binIntW .geq a1 (Value.int .i64 1) (fun x1 => gW x1 true (fun K => K a1) (fun x2 => gW x1 true (fun K => K a0) (fun x3 => gW x1 true (fun K => nilW x3 K) (fun x4 => gW x1 true (fun K => addW 0 x4 K) (fun x5 => gW x1 true (fun K => load1W x5 K) (fun x6 => gW x1 true (fun K => binIntW .lss x2 x6 K) (fun x7 => pickW x1 x7 (Value.bool false) (fun x8 => K x8))))))))

/-- arena_asked -/
def S_arena_asked (a0 a1 : Value) (K : KV) : World → Prop :=
  binIntW .leq a1 (Value.int .i64 14) (fun x1 => gW x1 false (fun K => K a1) (fun x2 => gW x1 false (fun K => K a0) (fun x3 => gW x1 false (fun K => CP Tryz.prog Fn.view_View_Size [x3] K) (fun x4 => gW x1 false (fun K => binIntW .geq x2 x4 K) (fun x5 => pickW x1 (Value.bool true) x5 (fun x6 => condP x6 (K (Value.tuple #[(Value.int .i64 0), (Value.bool false), (Value.int .i64 2)])) (binIntW .sub a1 (Value.int .i64 1) (fun x7 => CP Tryz.prog Fn.view_View_Read [a0, x7] (fun x8 => extractW 0 x8 (fun x9 => extractW 1 x8 (fun x10 => binIntW .neq x10 (Value.int .i64 0) (fun x11 => condP x11 (K (Value.tuple #[(Value.int .i64 0), (Value.bool false), x10])) (CP Tryz.prog Fn.arena_header [x9] (fun x12 => extractW 0 x12 (fun x13 => extractW 1 x12 (fun x14 => binIntW .eql x13 (Value.int .i64 0) (fun x15 => condP x15 (K (Value.tuple #[(Value.int .i64 0), (Value.bool false), (Value.int .i64 2)])) (K (Value.tuple #[x13, x14, (Value.int .i64 0)])))))))))))))))))))

/-- table_Len_1 -/
def S_table_Len_1 (a0 a1 a2 : Value) (K : KV) : World → Prop :=
  load1W a1 (fun x1 => CP Tryz.prog Fn.table_open [a0, x1] (fun x2 => nilW x2 (fun x3 => addW 1 x3 (fun x4 => load1W x4 (fun x5 => binIntW .neq x5 (Value.int .i64 0) (fun x6 => joinW0 (K (Value.tuple #[])) (fun j1 => condP x6 (nilW x2 (fun x7 => addW 4 x7 (fun x8 => load1W x8 (fun x9 => convW .i64 x9 (fun x10 => storeW 1 a2 x10 (fun _ => j1)))))) (j1))))))))

/-- arena_Free -/
def S_arena_Free (a0 a1 : Value) (K : KV) : World → Prop :=
  CP Tryz.prog Fn.arena_asked [a0, a1] (fun x1 => extractW 0 x1 (fun x2 => extractW 1 x1 (fun x3 => extractW 2 x1 (fun x4 => binIntW .eql x4 (Value.int .i64 0) (fun x5 => gW x5 true (fun K => K x3) (fun x6 => gW x5 true (fun K => notW x6 K) (fun x7 => pickW x5 x7 (Value.bool false) (fun x8 => joinW1 (fun x9 => binIntW .eql x9 (Value.int .i64 0) (fun x10 => joinW1 (fun x11 => binIntW .eql x11 (Value.int .i64 0) (fun x12 => joinW0 (K x11) (fun j3 => condP x12 (CP Tryz.prog Fn.view_View_Free [a0, a1] (fun x13 => j3)) (j3)))) (fun j2 => condP x10 (binIntW .sub a1 (Value.int .i64 1) (fun x14 => convW .u64 x2 (fun x15 => buildW [(Value.int .i64 0), (Value.int .u64 0)] [(0, 1, x14), (1, 1, x15)] (fun x16 => buildSliceW [(Value.int .i64 0), (Value.int .u64 0)] 1 [(0, 2, x16)] (fun x17 => CP Tryz.prog Fn.view_View_Take [a0, x17] (fun x18 => j2 x18)))))) (j2 x9)))) (fun j1 => condP x8 (j1 (Value.int .i64 2)) (j1 x4))))))))))

/-- slices_Backward_levels_level_levels_level_1 -/
def S_slices_Backward_levels_level_levels_level_1 (a0 a1 : Value) (K : KV) : World → Prop :=
  load1W a1 (fun x1 => lenW x1 (fun x2 => binIntW .sub x2 (Value.int .i64 1) (fun x3 => loopW1 x3 (fun J1 x4 => binIntW .geq x4 (Value.int .i64 0) (fun x5 => condP x5 (load1W a1 (fun x6 => idxW 1 x6 x4 (fun x7 => load1W x7 (fun x8 => dynW Tryz.prog a0 [x4, x8] (fun x9 => notW x9 (fun x10 => condP x10 (K (Value.tuple #[])) (binIntW .sub x4 (Value.int .i64 1) (fun x11 => J1 x11)))))))) (K (Value.tuple #[])))))))

/-- writes_Writes_Put -/
def S_writes_Writes_Put (a0 a1 a2 : Value) (K : KV) : World → Prop :=
  binIntW .lss a1 (Value.int .i64 1) (fun x1 => gW x1 false (fun K => K a1) (fun x2 => gW x1 false (fun K => binIntW .geq x2 (Value.int .i64 256) K) (fun x3 => pickW x1 (Value.bool true) x3 (fun x4 => condP x4 (K (Value.int .i64 2)) (CP Tryz.prog Fn.writes_Writes_find [a0, a1] (fun x5 => binIntW .geq x5 (Value.int .i64 0) (fun x6 => condP x6 (nilW a0 (fun x7 => addW 1 x7 (fun x8 => load1W x8 (fun x9 => idxW 2 x9 x5 (fun x10 => addW 1 x10 (fun x11 => storeW 1 x11 a2 (fun _ => K (Value.int .i64 0)))))))) (drewW (nilW a0 (fun x13 => addW 1 x13 (fun x14 => load1W x14 (fun x15 => lenW x15 (fun x16 => nilW a0 (fun x17 => addW 0 x17 (fun x18 => load1W x18 (fun x19 => binIntW .geq x16 x19 (fun x20 => condP x20 (K (Value.int .i64 5)) (nilW a0 (fun x21 => addW 1 x21 (fun x22 => load1W x22 (fun x23 => buildW [(Value.int .i64 0), (Value.int .u64 0)] [(0, 1, a1), (1, 1, a2)] (fun x24 => buildSliceW [(Value.int .i64 0), (Value.int .u64 0)] 1 [(0, 2, x24)] (fun x25 => appendW 2 16 x23 x25 (fun x26 => nilW a0 (fun x27 => addW 1 x27 (fun x28 => storeW 1 x28 x26 (fun _ => K (Value.int .i64 0))))))))))))))))))))))))))))

/-- levels_Levels_Get -/
def S_levels_Levels_Get (a0 a1 : Value) (K : KV) : World → Prop :=
  boxW a1 (fun x1 => newW #[(Value.int .u64 0)] (fun x2 => newW #[(Value.bool false)] (fun x3 => nilW a0 (fun x4 => addW 1 x4 (fun x5 => load1W x5 (fun x6 => CP Tryz.prog Fn.slices_Backward_levels_level_levels_level [x6] (fun x7 => backW Fn.slices_Backward_levels_level_levels_level_1 x7 (fun J R x8 x9 => drewW (nilW x9 (fun x10 => addW 0 x10 (fun x11 => load1W x11 (fun x12 => load1W x1 (fun x13 => CP Tryz.prog Fn.writes_Writes_Get [x12, x13] (fun x14 => andP (andP (trueP) (andP (trueP) (trueP))) (extractW 0 x14 (fun x15 => extractW 1 x14 (fun x16 => condP x16 (storeW 1 x2 x15 (fun _ => storeW 1 x3 (Value.bool true) (fun _ => R))) (J))))))))))) (fun K => storeW 1 x2 (Value.int .u64 0) (fun _ => storeW 1 x3 (Value.bool false) (fun _ => load1W x2 (fun x21 => load1W x3 (fun x22 => K (Value.tuple #[x21, x22])))))) (fun K => load1W x2 (fun x23 => load1W x3 (fun x24 => K (Value.tuple #[x23, x24])))) K)))))))

/-- levels_Levels_Take -/
def S_levels_Levels_Take (a0 a1 : Value) (K : KV) : World → Prop :=
  CP Tryz.prog Fn.writes_New [(Value.int .i64 96)] (fun x1 => CP Tryz.prog Fn.levels_Levels_in [a0] (fun x2 => nilW x2 (fun x3 => addW 0 x3 (fun x4 => load1W x4 (fun x5 => CP Tryz.prog Fn.writes_Writes_All [x5] (fun x6 => CP Tryz.prog Fn.writes_Writes_Take [x1, x6] (fun x7 => lenW a1 (fun x8 => loopW1 (Value.int .i64 0) (fun J1 x9 => binIntW .lss x9 x8 (fun x10 => condP x10 (idxW 2 a1 x9 (fun x11 => loadNW 2 x11 (fun x12 => newW #[(Value.int .i64 0), (Value.int .u64 0)] (fun x13 => storeW 2 x13 x12 (fun _ => addW 0 x13 (fun x15 => load1W x15 (fun x16 => addW 1 x13 (fun x17 => load1W x17 (fun x18 => CP Tryz.prog Fn.levels_Levels_Put [a0, x16, x18] (fun x19 => binIntW .neq x19 (Value.int .i64 0) (fun x20 => condP x20 (CP Tryz.prog Fn.levels_Levels_in [a0] (fun x21 => nilW x21 (fun x22 => addW 0 x22 (fun x23 => storeW 1 x23 x1 (fun _ => K x19))))) (binIntW .add x9 (Value.int .i64 1) (fun x25 => J1 x25))))))))))))) (K (Value.int .i64 0))))))))))))

/-- levels_Levels_Free -/
def S_levels_Levels_Free (a0 a1 : Value) (K : KV) : World → Prop :=
  CP Tryz.prog Fn.levels_Levels_in [a0] (fun x1 => nilW x1 (fun x2 => addW 1 x2 (fun x3 => load1W x3 (fun x4 => buildSliceW [(Value.int .i64 0)] 1 [(0, 1, a1)] (fun x5 => appendW 1 8 x4 x5 (fun x6 => nilW x1 (fun x7 => addW 1 x7 (fun x8 => storeW 1 x8 x6 (fun _ => K (Value.tuple #[]))))))))))

/-- draft_Draft_Name -/
def S_draft_Draft_Name (a0 a1 : Value) (K : KV) : World → Prop :=
  binIntW .geq a1 (Value.int .u64 2147483648) (fun x1 => condP x1 (CP Tryz.prog Fn.draft_Draft_Fail [a0, (Value.int .i64 2)] (fun x2 => K (Value.int .i64 0))) (convW .i64 a1 (fun x3 => K x3)))

/-- levels_Levels_Put -/
def S_levels_Levels_Put (a0 a1 a2 : Value) (K : KV) : World → Prop :=
  binIntW .lss a1 (Value.int .i64 1) (fun x1 => gW x1 false (fun K => K a1) (fun x2 => gW x1 false (fun K => binIntW .geq x2 (Value.int .i64 256) K) (fun x3 => pickW x1 (Value.bool true) x3 (fun x4 => condP x4 (K (Value.int .i64 2)) (CP Tryz.prog Fn.levels_Levels_in [a0] (fun x5 => nilW x5 (fun x6 => addW 0 x6 (fun x7 => load1W x7 (fun x8 => CP Tryz.prog Fn.writes_Writes_Get [x8, a1] (fun x9 => extractW 0 x9 (fun x10 => extractW 1 x9 (fun x11 => notW x11 (fun x12 => gW x12 true (fun K => K a0) (fun x13 => gW x12 true (fun K => CP Tryz.prog Fn.levels_Levels_Room [x13] K) (fun x14 => gW x12 true (fun K => binIntW .eql x14 (Value.int .i64 0) K) (fun x15 => pickW x12 x15 (Value.bool false) (fun x16 => condP x16 (K (Value.int .i64 5)) (CP Tryz.prog Fn.writes_Writes_Put [x8, a1, a2] (fun x17 => K x17)))))))))))))))))))

/-- arena_Class -/
def S_arena_Class (a0 : Value) (K : KV) : World → Prop :=
  binIntW .lss a0 (Value.int .i64 1) (fun x1 => condP x1 (K (Value.int .i64 0)) (loopW1 (Value.int .i64 1) (fun J1 x2 => binIntW .leq x2 (Value.int .i64 4) (fun x3 => condP x3 (CP Tryz.prog Fn.arena_Size [x2] (fun x4 => binIntW .geq x4 a0 (fun x5 => condP x5 (K x2) (binIntW .add x2 (Value.int .i64 1) (fun x6 => J1 x6))))) (K (Value.int .i64 0))))))

/-- arena_again -/
def S_arena_again (a0 a1 a2 : Value) (K : KV) : World → Prop :=
  binIntW .geq a2 (Value.int .u64 2147483648) (fun x1 => condP x1 (K (Value.tuple #[(Value.int .i64 0), (Value.int .i64 2)])) (convW .i64 a2 (fun x2 => CP Tryz.prog Fn.view_View_Read [a0, x2] (fun x3 => extractW 0 x3 (fun x4 => extractW 1 x3 (fun x5 => binIntW .eql x5 (Value.int .i64 0) (fun x6 => joinW1 (fun x7 => binIntW .neq x7 (Value.int .i64 0) (fun x8 => condP x8 (K (Value.tuple #[(Value.int .i64 0), x7])) (K (Value.tuple #[x2, (Value.int .i64 0)])))) (fun j1 => condP x6 (CP Tryz.prog Fn.arena_head [a1] (fun x9 => buildW [(Value.int .i64 0), (Value.int .u64 0)] [(0, 1, x9), (1, 1, x4)] (fun x10 => binIntW .sub x2 (Value.int .i64 1) (fun x11 => binIntW .add a1 (Value.int .i64 8) (fun x12 => convW .u64 x12 (fun x13 => buildW [(Value.int .i64 0), (Value.int .u64 0)] [(0, 1, x11), (1, 1, x13)] (fun x14 => buildSliceW [(Value.int .i64 0), (Value.int .u64 0)] 2 [(0, 2, x10), (2, 2, x14)] (fun x15 => CP Tryz.prog Fn.view_View_Take [a0, x15] (fun x16 => j1 x16))))))))) (j1 x5)))))))))

/-- arena_grown -/
def S_arena_grown (a0 a1 : Value) (K : KV) : World → Prop :=
  CP Tryz.prog Fn.view_View_Read [a0, (Value.int .i64 5)] (fun x1 => extractW 0 x1 (fun x2 => extractW 1 x1 (fun x3 => binIntW .neq x3 (Value.int .i64 0) (fun x4 => condP x4 (K (Value.tuple #[(Value.int .i64 0), x3])) (binIntW .lss x2 (Value.int .u64 14) (fun x5 => gW x5 false (fun K => K x2) (fun x6 => gW x5 false (fun K => binIntW .geq x6 (Value.int .u64 2147483648) K) (fun x7 => pickW x5 (Value.bool true) x7 (fun x8 => gW x8 false (fun K => K x2) (fun x9 => gW x8 false (fun K => convW .i64 x9 K) (fun x10 => gW x8 false (fun K => binIntW .add x10 (Value.int .i64 1) K) (fun x11 => gW x8 false (fun K => K a1) (fun x12 => gW x8 false (fun K => CP Tryz.prog Fn.arena_Size [x12] K) (fun x13 => gW x8 false (fun K => binIntW .add x11 x13 K) (fun x14 => gW x8 false (fun K => K a0) (fun x15 => gW x8 false (fun K => CP Tryz.prog Fn.view_View_Size [x15] K) (fun x16 => gW x8 false (fun K => binIntW .gtr x14 x16 K) (fun x17 => pickW x8 (Value.bool true) x17 (fun x18 => condP x18 (K (Value.tuple #[(Value.int .i64 0), (Value.int .i64 4)])) (convW .i64 x2 (fun x19 => binIntW .add x19 (Value.int .i64 1) (fun x20 => CP Tryz.prog Fn.arena_Size [a1] (fun x21 => binIntW .add x20 x21 (fun x22 => convW .u64 x22 (fun x23 => buildW [(Value.int .i64 0), (Value.int .u64 0)] [(0, 1, (Value.int .i64 5)), (1, 1, x23)] (fun x24 => binIntW .add a1 (Value.int .i64 8) (fun x25 => convW .u64 x25 (fun x26 => buildW [(Value.int .i64 0), (Value.int .u64 0)] [(0, 1, x19), (1, 1, x26)] (fun x27 => buildSliceW [(Value.int .i64 0), (Value.int .u64 0)] 2 [(0, 2, x24), (2, 2, x27)] (fun x28 => CP Tryz.prog Fn.view_View_Take [a0, x28] (fun x29 => binIntW .neq x29 (Value.int .i64 0) (fun x30 => condP x30 (K (Value.tuple #[(Value.int .i64 0), x29])) (binIntW .add x19 (Value.int .i64 1) (fun x31 => K (Value.tuple #[x31, (Value.int .i64 0)])))))))))))))))))))))))))))))))))))

/-- ref7_NewView -/
def S_ref7_NewView (a0 a1 : Value) (K : KV) : World → Prop :=
  CP Tryz.prog Fn.ref1_Held [a0, (Value.int .i64 32), (Value.int .i64 256)] (fun x1 => CP Tryz.prog Fn.ref7_NewLevels [a1] (fun x2 => buildW [(Value.int .i64 0), (Value.slice none 0 0), (Value.pointer none), (Value.int .i64 0)] [(0, 1, x1), (2, 1, x2)] (fun x3 => boxW x3 (fun x4 => K x4))))

/-- writes_Writes_find -/
def S_writes_Writes_find (a0 a1 : Value) (K : KV) : World → Prop :=
  boxW a1 (fun x1 => nilW a0 (fun x2 => addW 1 x2 (fun x3 => load1W x3 (fun x4 => CP Tryz.prog Fn.slices_IndexFunc_api_Cell_api_Cell [x4, (Value.func (.func Fn.writes_Writes_find_1) #[] #[x1])] (fun x5 => K x5)))))

/-- writes_Writes_Get -/
def S_writes_Writes_Get (a0 a1 : Value) (K : KV) : World → Prop :=
  CP Tryz.prog Fn.writes_Writes_find [a0, a1] (fun x1 => binIntW .geq x1 (Value.int .i64 0) (fun x2 => condP x2 (nilW a0 (fun x3 => addW 1 x3 (fun x4 => load1W x4 (fun x5 => idxW 2 x5 x1 (fun x6 => addW 1 x6 (fun x7 => load1W x7 (fun x8 => K (Value.tuple #[x8, (Value.bool true)])))))))) (K (Value.tuple #[(Value.int .u64 0), (Value.bool false)]))))

/-- levels_Levels_in -/
def S_levels_Levels_in (a0 : Value) (K : KV) : World → Prop :=
  drewW (nilW a0 (fun x1 => addW 1 x1 (fun x2 => load1W x2 (fun x3 => nilW a0 (fun x4 => addW 1 x4 (fun x5 => load1W x5 (fun x6 => lenW x6 (fun x7 => binIntW .sub x7 (Value.int .i64 1) (fun x8 => idxW 1 x3 x8 (fun x9 => load1W x9 (fun x10 => K x10)))))))))))

/-- levels_Levels_Room -/
def S_levels_Levels_Room (a0 : Value) (K : KV) : World → Prop :=
  nilW a0 (fun x1 => addW 0 x1 (fun x2 => load1W x2 (fun x3 => nilW a0 (fun x4 => addW 1 x4 (fun x5 => load1W x5 (fun x6 => lenW x6 (fun x7 => loopW2 x3 (Value.int .i64 0) (fun J1 x8 x9 => binIntW .lss x9 x7 (fun x10 => condP x10 (idxW 1 x6 x9 (fun x11 => load1W x11 (fun x12 => nilW x12 (fun x13 => addW 0 x13 (fun x14 => load1W x14 (fun x15 => CP Tryz.prog Fn.writes_Writes_Len [x15] (fun x16 => binIntW .sub x8 x16 (fun x17 => binIntW .add x9 (Value.int .i64 1) (fun x18 => J1 x17 x18))))))))) (K x8))))))))))

/-- ref7_NewLevels -/
def S_ref7_NewLevels (a0 : Value) (K : KV) : World → Prop :=
  drewW (andP (CP Tryz.prog Fn.ref1_Held [a0, (Value.int .i64 0), (Value.int .i64 96)] (fun x1 => andP (trueP) (makeSliceW 48 [(Value.slice none 0 0), (Value.slice none 0 0)] (Value.int .i64 1) (Value.int .i64 1) (fun x2 => andP (trueP) (buildW [(Value.int .i64 0), (Value.slice none 0 0)] [(0, 1, x1), (1, 1, x2)] (fun x3 => boxW x3 (fun x4 => andP (trueP) (K x4)))))))) (makeSliceW 48 [(Value.slice none 0 0), (Value.slice none 0 0)] (Value.int .i64 1) (Value.int .i64 1) (fun x5 => andP (trueP) (CP Tryz.prog Fn.ref1_Held [a0, (Value.int .i64 0), (Value.int .i64 96)] (fun x6 => andP (trueP) (buildW [(Value.int .i64 0), (Value.slice none 0 0)] [(0, 1, x6), (1, 1, x5)] (fun x7 => boxW x7 (fun x8 => andP (trueP) (K x8)))))))))

/-- slices_IndexFunc_api_Cell_api_Cell -/
def S_slices_IndexFunc_api_Cell_api_Cell (a0 a1 : Value) (K : KV) : World → Prop :=
  lenW a0 (fun x1 => loopW1 (Value.int .i64 0) (fun J1 x2 => binIntW .lss x2 x1 (fun x3 => condP x3 (idxW 2 a0 x2 (fun x4 => loadNW 2 x4 (fun x5 => dynW Tryz.prog a1 [x5] (fun x6 => condP x6 (K x2) (binIntW .add x2 (Value.int .i64 1) (fun x7 => J1 x7)))))) (K (Value.int .i64 (-1))))))

/-- writes_Writes_find_1 -/
def S_writes_Writes_find_1 (a0 a1 : Value) (K : KV) : World → Prop :=
  boxW a0 (fun x1 => addW 0 x1 (fun x2 => load1W x2 (fun x3 => load1W a1 (fun x4 => binIntW .eql x3 x4 (fun x5 => K x5)))))

/-- writes_Writes_Len -/
def S_writes_Writes_Len (a0 : Value) (K : KV) : World → Prop :=
  nilW a0 (fun x1 => addW 1 x1 (fun x2 => load1W x2 (fun x3 => lenW x3 (fun x4 => K x4))))

end Go.Proofs.YtokbiojkpldfeaaGreat.S
