/-
  THE PLAIN FORMS OF THE FUNCTIONS, by a program.
-/
import Derived.Test.YtoealglbimbbmaaGreatDoorG
import Derived.Test.YtoealglbimbbmaaGreatDoorSIn
import Derived.Test.YtoealglbimbbmaaGreatDoorProg
namespace Go.Proofs.YtoealglbimbbmaaGreatDoor.S
open Go Go.Proofs
set_option linter.unusedVariables false
set_option maxRecDepth 100000
abbrev Fn.gosem_cut_init : Nat := 2
abbrev Fn.top_TopOrder : Nat := 3
abbrev Fn.top_TopReads : Nat := 4
abbrev Fn.top_TopSafe : Nat := 5
abbrev Fn.top_TopClock : Nat := 6
abbrev Fn.top_TopTotal : Nat := 7
abbrev Fn.top_TopWakes : Nat := 8
abbrev Fn.top_awake : Nat := 9
abbrev Fn.machine_New : Nat := 10
abbrev Fn.keep_Setup_Setup : Nat := 11
abbrev Fn.keep_Threads : Nat := 12
abbrev Fn.machine_Machine_Words : Nat := 13
abbrev Fn.top_pick : Nat := 14
abbrev Fn.machine_Machine_Pick : Nat := 15
abbrev Fn.top_who : Nat := 16
abbrev Fn.top_ordered : Nat := 17
abbrev Fn.top_calls : Nat := 18
abbrev Fn.top_great : Nat := 19
abbrev Fn.top_stacks : Nat := 20
abbrev Fn.machine_Machine_Attempts : Nat := 21
abbrev Fn.ref29_Heap : Nat := 22
abbrev Fn.machine_Machine_Last : Nat := 23
abbrev Fn.ref29_Safe : Nat := 24
abbrev Fn.top_adds : Nat := 25
abbrev Fn.top_settled : Nat := 26
abbrev Fn.machine_Machine_Results : Nat := 27
abbrev Fn.machine_Machine_Now : Nat := 28
abbrev Fn.keep_Prog_Prog : Nat := 29
abbrev Fn.book_Within : Nat := 30
abbrev Fn.machine_Machine_Threads : Nat := 31
abbrev Fn.machine_Machine_State : Nat := 32
abbrev Fn.ref13_Check : Nat := 33
abbrev Fn.top_takes : Nat := 34
abbrev Fn.top_puts : Nat := 35
abbrev Fn.machine_Machine_Rests : Nat := 36
abbrev Fn.attempt_Held : Nat := 37
abbrev Fn.mem_New : Nat := 38
abbrev Fn.arena_Fresh : Nat := 39
abbrev Fn.mem_Mem_Do : Nat := 40
abbrev Fn.thread_New : Nat := 41
abbrev Fn.mem_Mem_Words : Nat := 42
abbrev Fn.thread_Thread_Next : Nat := 43
abbrev Fn.thread_Thread_Pause : Nat := 44
abbrev Fn.thread_Thread_Tell : Nat := 45
abbrev Fn.thread_Thread_Wake : Nat := 46
abbrev Fn.ref29_Keeps : Nat := 47
abbrev Fn.ref29_True : Nat := 48
abbrev Fn.keep_Calls : Nat := 49
abbrev Fn.top_stack : Nat := 50
abbrev Fn.top_walk : Nat := 51
abbrev Fn.thread_Thread_Attempts : Nat := 52
abbrev Fn.ref29_Order : Nat := 53
abbrev Fn.ref21_Apply : Nat := 54
abbrev Fn.ref7_Lists : Nat := 55
abbrev Fn.ref7_Size : Nat := 56
abbrev Fn.machine_Machine_of : Nat := 57
abbrev Fn.thread_Thread_Results : Nat := 58
abbrev Fn.mem_Mem_Now : Nat := 59
abbrev Fn.keep_shut : Nat := 60
abbrev Fn.keep_reg : Nat := 61
abbrev Fn.keep_simple : Nat := 62
abbrev Fn.thread_Thread_State : Nat := 63
abbrev Fn.ref13_May : Nat := 64
abbrev Fn.mem_Held : Nat := 65
abbrev Fn.heap_New : Nat := 66
abbrev Fn.stripe_New : Nat := 67
abbrev Fn.clock_New : Nat := 68
abbrev Fn.epoch_New : Nat := 69
abbrev Fn.mem_Mem_do : Nat := 70
abbrev Fn.limbo_New : Nat := 71
abbrev Fn.slices_Clone_api_Ins_api_Ins : Nat := 72
abbrev Fn.thread_Thread_following : Nat := 73
abbrev Fn.heap_Heap_All : Nat := 74
abbrev Fn.attempt_Attempt_Next : Nat := 75
abbrev Fn.thread_Thread_again : Nat := 76
abbrev Fn.attempt_Attempt_Begin : Nat := 77
abbrev Fn.attempt_Attempt_Tell : Nat := 78
abbrev Fn.attempt_Attempt_End : Nat := 79
abbrev Fn.thread_Thread_ended : Nat := 80
abbrev Fn.thread_Thread_yield : Nat := 81
abbrev Fn.thread_Thread_looked : Nat := 82
abbrev Fn.attempt_Attempt_Seen : Nat := 83
abbrev Fn.attempt_Attempt_Blocking : Nat := 84
abbrev Fn.keep_Call_Ins : Nat := 85
abbrev Fn.thread_copied : Nat := 86
abbrev Fn.thread_Thread_told : Nat := 87
abbrev Fn.ref29_Less : Nat := 88
abbrev Fn.ref7_Whole : Nat := 89
abbrev Fn.ref7_View_In : Nat := 90
abbrev Fn.ref7_Blocks : Nat := 91
abbrev Fn.slices_Clone_api_Result_api_Result : Nat := 92
abbrev Fn.clock_Clock_Load : Nat := 93
abbrev Fn.ref13_RowOf : Nat := 94
abbrev Fn.ref13_within : Nat := 95
abbrev Fn.stripe_near : Nat := 96
abbrev Fn.heap_Heap_Load : Nat := 97
abbrev Fn.heap_Heap_Store : Nat := 98
abbrev Fn.stripe_Table_Load : Nat := 99
abbrev Fn.stripe_Table_Cas : Nat := 100
abbrev Fn.stripe_Table_Store : Nat := 101
abbrev Fn.clock_Clock_Cas : Nat := 102
abbrev Fn.epoch_Slots_Load : Nat := 103
abbrev Fn.epoch_Slots_Store : Nat := 104
abbrev Fn.slices_Clone_uint64_uint64 : Nat := 105
abbrev Fn.attempt_Sweep : Nat := 106
abbrev Fn.attempt_New : Nat := 107
abbrev Fn.attempt_Attempt_out : Nat := 108
abbrev Fn.attempt_Attempt_work : Nat := 109
abbrev Fn.attempt_Attempt_told : Nat := 110
abbrev Fn.attempt_Attempt_By : Nat := 111
abbrev Fn.thread_Thread_pause : Nat := 112
abbrev Fn.thread_Thread_swept : Nat := 113
abbrev Fn.attempt_Attempt_Err : Nat := 114
abbrev Fn.attempt_Attempt_Slate : Nat := 115
abbrev Fn.attempt_Attempt_Stamp : Nat := 116
abbrev Fn.limbo_Limbo_Add : Nat := 117
abbrev Fn.attempt_Attempt_Frees : Nat := 118
abbrev Fn.thread_Thread_over : Nat := 119
abbrev Fn.thread_Thread_look : Nat := 120
abbrev Fn.reads_Reads_All : Nat := 121
abbrev Fn.keep_Call_Which : Nat := 122
abbrev Fn.keep_Call_Key : Nat := 123
abbrev Fn.keep_Call_Val : Nat := 124
abbrev Fn.keep_Call_Place : Nat := 125
abbrev Fn.slices_Clone_api_Cell_api_Cell : Nat := 126
abbrev Fn.slices_Clone_int_int : Nat := 127
abbrev Fn.attempt_Attempt_Writing : Nat := 128
abbrev Fn.attempt_Attempt_Reads : Nat := 129
abbrev Fn.attempt_Attempt_Cells : Nat := 130
abbrev Fn.ref29_wrote : Nat := 131
abbrev Fn.ref7_NewView : Nat := 132
abbrev Fn.ref7_place : Nat := 133
abbrev Fn.heap_Heap_is : Nat := 134
abbrev Fn.stripe_Table_is : Nat := 135
abbrev Fn.stripe_Table_may : Nat := 136
abbrev Fn.epoch_Slots_is : Nat := 137
abbrev Fn.attempt_fresh : Nat := 138
abbrev Fn.interp_New : Nat := 139
abbrev Fn.attempt_Attempt_do : Nat := 140
abbrev Fn.attempt_Attempt_ask : Nat := 141
abbrev Fn.view_View_Need : Nat := 142
abbrev Fn.attempt_Attempt_later : Nat := 143
abbrev Fn.view_View_Cells : Nat := 144
abbrev Fn.commit_New : Nat := 145
abbrev Fn.attempt_Attempt_enter : Nat := 146
abbrev Fn.attempt_Attempt_ended : Nat := 147
abbrev Fn.commit_Commit_Stamp : Nat := 148
abbrev Fn.attempt_Attempt_committed : Nat := 149
abbrev Fn.interp_Interp_Slate : Nat := 150
abbrev Fn.slate_Slate_Text : Nat := 151
abbrev Fn.view_View_Frees : Nat := 152
abbrev Fn.limbo_Limbo_Len : Nat := 153
abbrev Fn.limbo_Limbo_Ripe : Nat := 154
abbrev Fn.slices_Clone_api_Seen_api_Seen : Nat := 155
abbrev Fn.commit_Commit_Writing : Nat := 156
abbrev Fn.commit_Commit_End : Nat := 157
abbrev Fn.view_View_Known : Nat := 158
abbrev Fn.ref1_Held : Nat := 159
abbrev Fn.ref7_NewLevels : Nat := 160
abbrev Fn.lock_Is : Nat := 161
abbrev Fn.view_New : Nat := 162
abbrev Fn.reads_New : Nat := 163
abbrev Fn.check_Run : Nat := 164
abbrev Fn.check_Match : Nat := 165
abbrev Fn.slate_New : Nat := 166
abbrev Fn.interp_Interp_Run : Nat := 167
abbrev Fn.interp_Interp_Err : Nat := 168
abbrev Fn.arena_Give : Nat := 169
abbrev Fn.fetch_New : Nat := 170
abbrev Fn.stripe_Of : Nat := 171
abbrev Fn.extend_New : Nat := 172
abbrev Fn.levels_Levels_Cells : Nat := 173
abbrev Fn.patience_New : Nat := 174
abbrev Fn.writes_Stripes : Nat := 175
abbrev Fn.commit_Commit_more : Nat := 176
abbrev Fn.attempt_Attempt_fetched : Nat := 177
abbrev Fn.extend_Extend_Stamp : Nat := 178
abbrev Fn.commit_Commit_Err : Nat := 179
abbrev Fn.slate_Slate_Copy : Nat := 180
abbrev Fn.slate_word : Nat := 181
abbrev Fn.strings_Join : Nat := 182
abbrev Fn.levels_Levels_Frees : Nat := 183
abbrev Fn.epoch_Passed : Nat := 184
abbrev Fn.patience_Patience_End : Nat := 185
abbrev Fn.lock_owns : Nat := 186
abbrev Fn.levels_New : Nat := 187
abbrev Fn.check_wrong : Nat := 188
abbrev Fn.check_stack_behind : Nat := 189
abbrev Fn.check_stack_inmost : Nat := 190
abbrev Fn.check_jumps : Nat := 191
abbrev Fn.check_regions : Nat := 192
abbrev Fn.check_ends : Nat := 193
abbrev Fn.interp_Interp_fail : Nat := 194
abbrev Fn.interp_Interp_do : Nat := 195
abbrev Fn.arena_asked : Nat := 196
abbrev Fn.view_View_Read : Nat := 197
abbrev Fn.arena_head : Nat := 198
abbrev Fn.view_View_Take : Nat := 199
abbrev Fn.slices_Backward_levels_level_levels_level : Nat := 200
abbrev Fn.writes_New : Nat := 201
abbrev Fn.writes_Writes_Take : Nat := 202
abbrev Fn.writes_Writes_All : Nat := 203
abbrev Fn.slices_Sort_int_int : Nat := 204
abbrev Fn.slices_Compact_int_int : Nat := 205
abbrev Fn.fetch_Fetch_End : Nat := 206
abbrev Fn.reads_Reads_Add : Nat := 207
abbrev Fn.fetch_Fetch_Seen : Nat := 208
abbrev Fn.view_View_Know : Nat := 209
abbrev Fn.fetch_Fetch_Word : Nat := 210
abbrev Fn.extend_Extend_End : Nat := 211
abbrev Fn.patience_Patience_Err : Nat := 212
abbrev Fn.slices_Clone_any_any : Nat := 213
abbrev Fn.strconv_FormatUint : Nat := 214
abbrev Fn.strings_Builder_Grow : Nat := 215
abbrev Fn.strings_Builder_WriteString : Nat := 216
abbrev Fn.strings_Builder_String : Nat := 217
abbrev Fn.levels_fresh : Nat := 218
abbrev Fn.code_May : Nat := 219
abbrev Fn.check_stack_op : Nat := 220
abbrev Fn.check_begins : Nat := 221
abbrev Fn.code_Jumps : Nat := 222
abbrev Fn.interp_truth : Nat := 223
abbrev Fn.slate_Slate_AddNum : Nat := 224
abbrev Fn.interp_Interp_call : Nat := 225
abbrev Fn.interp_Interp_touch : Nat := 226
abbrev Fn.interp_Interp_turn : Nat := 227
abbrev Fn.view_View_Size : Nat := 228
abbrev Fn.arena_header : Nat := 229
abbrev Fn.view_View_is : Nat := 230
abbrev Fn.levels_Levels_Get : Nat := 231
abbrev Fn.levels_Levels_Take : Nat := 232
abbrev Fn.slices_Backward_levels_level_levels_level_1 : Nat := 233
abbrev Fn.writes_Writes_Put : Nat := 234
abbrev Fn.slices_pdqsortOrdered_int : Nat := 235
abbrev Fn.math_bits_Len : Nat := 236
abbrev Fn.reads_Reads_Get : Nat := 237
abbrev Fn.internal_strconv_FormatUint : Nat := 238
abbrev Fn.strings_Builder_copyCheck : Nat := 239
abbrev Fn.strings_Builder_grow : Nat := 240
abbrev Fn.code_fields : Nat := 241
abbrev Fn.code_Name : Nat := 242
abbrev Fn.code_field_fits : Nat := 243
abbrev Fn.slate_Slate_add : Nat := 244
abbrev Fn.interp_Interp_truth : Nat := 245
abbrev Fn.list_Add : Nat := 246
abbrev Fn.list_Cut : Nat := 247
abbrev Fn.list_Has : Nat := 248
abbrev Fn.table_Put : Nat := 249
abbrev Fn.interp_Interp_number : Nat := 250
abbrev Fn.table_Get : Nat := 251
abbrev Fn.table_Del : Nat := 252
abbrev Fn.interp_Interp_push : Nat := 253
abbrev Fn.interp_Interp_take : Nat := 254
abbrev Fn.tree_Put : Nat := 255
abbrev Fn.tree_Get : Nat := 256
abbrev Fn.tree_Del : Nat := 257
abbrev Fn.tree_Range : Nat := 258
abbrev Fn.interp_place : Nat := 259
abbrev Fn.view_View_Write : Nat := 260
abbrev Fn.arena_Alloc : Nat := 261
abbrev Fn.arena_Free : Nat := 262
abbrev Fn.interp_Interp_begin : Nat := 263
abbrev Fn.interp_Interp_leave : Nat := 264
abbrev Fn.view_View_Keep : Nat := 265
abbrev Fn.interp_Interp_back : Nat := 266
abbrev Fn.view_View_Drop : Nat := 267
abbrev Fn.interp_Interp_retry : Nat := 268
abbrev Fn.writes_Writes_Get : Nat := 269
abbrev Fn.levels_Levels_in : Nat := 270
abbrev Fn.levels_Levels_Put : Nat := 271
abbrev Fn.writes_Writes_find : Nat := 272
abbrev Fn.slices_insertionSortOrdered_int : Nat := 273
abbrev Fn.slices_heapSortOrdered_int : Nat := 274
abbrev Fn.slices_breakPatternsOrdered_int : Nat := 275
abbrev Fn.slices_choosePivotOrdered_int : Nat := 276
abbrev Fn.slices_reverseRangeOrdered_int : Nat := 277
abbrev Fn.slices_partialInsertionSortOrdered_int : Nat := 278
abbrev Fn.cmp_Less_int : Nat := 279
abbrev Fn.slices_partitionEqualOrdered_int : Nat := 280
abbrev Fn.slices_partitionOrdered_int : Nat := 281
abbrev Fn.math_bits_Len32 : Nat := 282
abbrev Fn.math_bits_Len64 : Nat := 283
abbrev Fn.internal_strconv_small : Nat := 284
abbrev Fn.internal_strconv_numDigits : Nat := 285
abbrev Fn.internal_strconv_formatBase10 : Nat := 286
abbrev Fn.internal_strconv_formatBits : Nat := 287
abbrev Fn.code_named : Nat := 290
abbrev Fn.code_names : Nat := 291
abbrev Fn.interp_Interp_truth_1 : Nat := 292
abbrev Fn.slate_Slate_AddTruth : Nat := 293
abbrev Fn.draft_Do : Nat := 294
abbrev Fn.list_Add_1 : Nat := 295
abbrev Fn.list_seek : Nat := 296
abbrev Fn.draft_Draft_OK : Nat := 297
abbrev Fn.list_found : Nat := 298
abbrev Fn.draft_Draft_Alloc : Nat := 299
abbrev Fn.draft_Draft_Write : Nat := 300
abbrev Fn.draft_Draft_Point : Nat := 301
abbrev Fn.list_Cut_1 : Nat := 302
abbrev Fn.draft_Draft_Read : Nat := 303
abbrev Fn.draft_Draft_Free : Nat := 304
abbrev Fn.list_Has_1 : Nat := 305
abbrev Fn.table_Put_1 : Nat := 306
abbrev Fn.table_open : Nat := 307
abbrev Fn.table_made : Nat := 308
abbrev Fn.table_table_seek : Nat := 309
abbrev Fn.table_table_grow : Nat := 310
abbrev Fn.interp_Interp_number_1 : Nat := 311
abbrev Fn.slate_Slate_AddNone : Nat := 312
abbrev Fn.table_Get_1 : Nat := 313
abbrev Fn.table_Del_1 : Nat := 314
abbrev Fn.queue_Push : Nat := 315
abbrev Fn.queue_Take : Nat := 316
abbrev Fn.tree_Put_1 : Nat := 317
abbrev Fn.tree_tree_seek : Nat := 318
abbrev Fn.tree_tree_link : Nat := 319
abbrev Fn.tree_tree_raised : Nat := 320
abbrev Fn.tree_Get_1 : Nat := 321
abbrev Fn.tree_Del_1 : Nat := 322
abbrev Fn.tree_tree_cut : Nat := 323
abbrev Fn.tree_Range_1 : Nat := 324
abbrev Fn.tree_tree_between : Nat := 325
abbrev Fn.tree_tree_top : Nat := 326
abbrev Fn.arena_Class : Nat := 327
abbrev Fn.arena_again : Nat := 328
abbrev Fn.arena_grown : Nat := 329
abbrev Fn.view_View_Free : Nat := 330
abbrev Fn.view_View_Open : Nat := 331
abbrev Fn.slate_Slate_Len : Nat := 332
abbrev Fn.levels_Levels_Keep : Nat := 333
abbrev Fn.slate_Slate_Cut : Nat := 334
abbrev Fn.levels_Levels_Drop : Nat := 335
abbrev Fn.levels_Levels_Room : Nat := 336
abbrev Fn.slices_IndexFunc_api_Cell_api_Cell : Nat := 337
abbrev Fn.writes_Writes_find_1 : Nat := 338
abbrev Fn.slices_siftDownOrdered_int : Nat := 339
abbrev Fn.slices_nextPowerOfTwo : Nat := 340
abbrev Fn.slices_xorshift_Next : Nat := 341
abbrev Fn.slices_medianAdjacentOrdered_int : Nat := 342
abbrev Fn.slices_medianOrdered_int : Nat := 343
abbrev Fn.cmp_isNaN_int : Nat := 344
abbrev Fn.internal_strconv_log10Pow2 : Nat := 345
abbrev Fn.internal_strconv_bool2_int : Nat := 346
abbrev Fn.internal_strconv_isPowerOfTwo : Nat := 347
abbrev Fn.math_bits_TrailingZeros : Nat := 348
abbrev Fn.draft_of : Nat := 349
abbrev Fn.draft_Draft_Step : Nat := 350
abbrev Fn.draft_Draft_Place : Nat := 351
abbrev Fn.draft_Draft_Fail : Nat := 352
abbrev Fn.table_chain : Nat := 353
abbrev Fn.table_table_each : Nat := 354
abbrev Fn.table_table_grow_1 : Nat := 355
abbrev Fn.queue_Push_1 : Nat := 356
abbrev Fn.queue_Take_1 : Nat := 357
abbrev Fn.tree_tree_child : Nat := 358
abbrev Fn.tree_tree_hang : Nat := 359
abbrev Fn.tree_tree_red : Nat := 360
abbrev Fn.tree_tree_straight : Nat := 361
abbrev Fn.tree_tree_paint : Nat := 362
abbrev Fn.tree_tree_heir : Nat := 363
abbrev Fn.tree_tree_lowered : Nat := 364
abbrev Fn.arena_Size : Nat := 365
abbrev Fn.levels_Levels_Free : Nat := 366
abbrev Fn.levels_Levels_Open : Nat := 367
abbrev Fn.writes_Writes_Len : Nat := 368
abbrev Fn.slices_order2Ordered_int : Nat := 369
abbrev Fn.math_bits_TrailingZeros32 : Nat := 370
abbrev Fn.math_bits_TrailingZeros64 : Nat := 371
abbrev Fn.draft_Draft_Name : Nat := 372
abbrev Fn.tree_tree_turn : Nat := 373
abbrev Fn.tree_tree_lent : Nat := 374
abbrev Fn.fetch_Fetch_By : Nat := 398
abbrev Fn.fetch_Fetch_Next : Nat := 399
abbrev Fn.fetch_Fetch_Tell : Nat := 400
abbrev Fn.patience_Patience_By : Nat := 401
abbrev Fn.patience_Patience_Stopped : Nat := 402
abbrev Fn.patience_Patience_Stop : Nat := 403
abbrev Fn.fetch_Fetch_found : Nat := 404
abbrev Fn.patience_Patience_Waits : Nat := 405
abbrev Fn.extend_Extend_By : Nat := 406
abbrev Fn.extend_Extend_Next : Nat := 407
abbrev Fn.extend_Extend_Tell : Nat := 408
abbrev Fn.commit_Commit_By : Nat := 409
abbrev Fn.commit_Commit_Next : Nat := 410
abbrev Fn.commit_Commit_Tell : Nat := 411
abbrev Fn.commit_Commit_begin : Nat := 412
abbrev Fn.commit_Commit_take : Nat := 413
abbrev Fn.commit_Commit_raise : Nat := 414
abbrev Fn.commit_Commit_proved : Nat := 415
abbrev Fn.commit_Commit_write : Nat := 416
abbrev Fn.commit_Commit_give : Nat := 417
abbrev Fn.commit_Commit_leave : Nat := 418
abbrev Fn.commit_Commit_held : Nat := 419
abbrev Fn.commit_Commit_stop : Nat := 420
abbrev Fn.commit_Commit_prove : Nat := 421
abbrev Fn.slices_BinarySearch_int_int : Nat := 422
abbrev Fn.slices_isNaN_int : Nat := 423
abbrev Fn.gosem_cut_vars : Nat := 432

/-- top_TopClock -/
def S_top_TopClock (a0 a1 a2 : Value) (K : KV) : World → Prop :=
  CP Tryz.prog Fn.top_awake [] (fun x1 => notW x1 (fun x2 => condP x2 (K (Value.bool false)) (binIntW .rem a0 (Value.int .u8 5) (fun x3 => convW .i64 x3 (fun x4 => binIntW .rem a1 (Value.int .u8 6) (fun x5 => convW .i64 x5 (fun x6 => loopW2 (Value.slice none 0 0) (Value.int .i64 0) (fun J1 x7 x8 => binIntW .lss x8 (Value.int .i64 2) (fun x9 => condP x9 (loopW2 (Value.slice none 0 0) (Value.int .i64 0) (fun J2 x10 x11 => binIntW .lss x11 x6 (fun x12 => condP x12 (CP Tryz.prog Fn.top_adds [(Value.int .i64 8)] (fun x13 => buildSliceW [(Value.slice none 0 0)] 1 [(0, 1, x13)] (fun x14 => appendW 1 24 x10 x14 (fun x15 => binIntW .add x11 (Value.int .i64 1) (fun x16 => J2 x15 x16))))) (buildW [(Value.int .i64 0), (Value.int .i64 0), (Value.int .i64 0), (Value.int .i64 0), (Value.int .u64 0)] [(0, 1, (Value.int .i64 8)), (1, 1, (Value.int .i64 0)), (2, 1, (Value.int .i64 7)), (3, 1, (Value.int .i64 8))] (fun x17 => buildW [(Value.int .i64 0), (Value.int .i64 0), (Value.int .i64 0), (Value.int .i64 0), (Value.int .u64 0)] [(0, 1, (Value.int .i64 21))] (fun x18 => buildSliceW [(Value.int .i64 0), (Value.int .i64 0), (Value.int .i64 0), (Value.int .i64 0), (Value.int .u64 0)] 2 [(0, 5, x17), (5, 5, x18)] (fun x19 => buildW [(Value.slice none 0 0)] [(0, 1, x19)] (fun x20 => buildSliceW [(Value.slice none 0 0)] 1 [(0, 1, x20)] (fun x21 => appendW 1 24 x10 x21 (fun x22 => buildSliceW [(Value.slice none 0 0)] 1 [(0, 1, x22)] (fun x23 => appendW 1 24 x7 x23 (fun x24 => binIntW .add x8 (Value.int .i64 1) (fun x25 => J1 x24 x25))))))))))))) (convW .u64 x4 (fun x26 => binIntW .sub (Value.int .u64 4611686018427387903) x26 (fun x27 => buildW [(Value.int .i64 0), (Value.int .i64 0), (Value.int .i64 0), (Value.int .i64 0), (Value.int .u64 0)] [(0, 1, (Value.int .i64 40)), (1, 1, (Value.int .i64 4)), (4, 1, x27)] (fun x28 => buildW [(Value.int .i64 0), (Value.int .i64 0), (Value.int .i64 0), (Value.int .i64 0), (Value.int .u64 0), (Value.int .i64 0), (Value.int .i64 0), (Value.int .i64 0)] [(0, 5, x28), (5, 1, (Value.int .i64 2)), (6, 1, (Value.int .i64 9)), (7, 1, (Value.int .i64 20))] (fun x29 => CP Tryz.prog Fn.machine_New [x29, x7] (fun x30 => eqNilW .eql x30 (Value.pointer none) (fun x31 => gW x31 false (fun K => K x30) (fun x32 => gW x31 false (fun K => K a2) (fun x33 => gW x31 false (fun K => CP Tryz.prog Fn.top_settled [x32, x33] K) (fun x34 => gW x31 false (fun K => notW x34 K) (fun x35 => pickW x31 (Value.bool true) x35 (fun x36 => condP x36 (K (Value.bool false)) (CP Tryz.prog Fn.machine_Machine_Words [x30] (fun x37 => loopW2 (Value.int .i64 0) (Value.int .i64 0) (fun J3 x38 x39 => binIntW .lss x39 (Value.int .i64 2) (fun x40 => condP x40 (CP Tryz.prog Fn.machine_Machine_Results [x30, x39] (fun x41 => lenW x41 (fun x42 => binIntW .add x6 (Value.int .i64 1) (fun x43 => binIntW .neq x42 x43 (fun x44 => gW x44 false (fun K => K x41) (fun x45 => gW x44 false (fun K => K x6) (fun x46 => gW x44 false (fun K => idxW 4 x45 x46 K) (fun x47 => gW x44 false (fun K => addW 0 x47 K) (fun x48 => gW x44 false (fun K => load1W x48 K) (fun x49 => gW x44 false (fun K => binIntW .neq x49 (Value.int .i64 2) K) (fun x50 => pickW x44 (Value.bool true) x50 (fun x51 => condP x51 (K (Value.bool false)) (loopW2 x38 (Value.int .i64 0) (fun J4 x52 x53 => binIntW .lss x53 x6 (fun x54 => condP x54 (idxW 4 x41 x53 (fun x55 => addW 0 x55 (fun x56 => load1W x56 (fun x57 => binIntW .eql x57 (Value.int .i64 2) (fun x58 => joinW1 (fun x59 => binIntW .add x53 (Value.int .i64 1) (fun x60 => J4 x59 x60)) (fun j1 => condP x58 (binIntW .add x52 (Value.int .i64 1) (fun x61 => j1 x61)) (idxW 4 x41 x53 (fun x62 => addW 0 x62 (fun x63 => load1W x63 (fun x64 => binIntW .neq x64 (Value.int .i64 4) (fun x65 => gW x65 false (fun K => K x41) (fun x66 => gW x65 false (fun K => K x53) (fun x67 => gW x65 false (fun K => idxW 4 x66 x67 K) (fun x68 => gW x65 false (fun K => addW 1 x68 K) (fun x69 => gW x65 false (fun K => load1W x69 K) (fun x70 => gW x65 false (fun K => binIntW .neq x70 (Value.int .i64 7) K) (fun x71 => pickW x65 (Value.bool true) x71 (fun x72 => condP x72 (K (Value.bool false)) (j1 x52))))))))))))))))))) (binIntW .add x39 (Value.int .i64 1) (fun x73 => J3 x52 x73))))))))))))))))) (lenW x37 (fun x74 => binIntW .eql x74 (Value.int .i64 40) (fun x75 => gW x75 true (fun K => K x37) (fun x76 => gW x75 true (fun K => idxW 1 x76 (Value.int .i64 8) K) (fun x77 => gW x75 true (fun K => load1W x77 K) (fun x78 => gW x75 true (fun K => K x38) (fun x79 => gW x75 true (fun K => convW .u64 x79 K) (fun x80 => gW x75 true (fun K => binIntW .eql x78 x80 K) (fun x81 => pickW x75 x81 (Value.bool false) (fun x82 => gW x82 true (fun K => K x38) (fun x83 => gW x82 true (fun K => K x4) (fun x84 => gW x82 true (fun K => binIntW .leq x83 x84 K) (fun x85 => pickW x82 x85 (Value.bool false) (fun x86 => gW x86 true (fun K => K x38) (fun x87 => gW x86 true (fun K => K x4) (fun x88 => gW x86 true (fun K => K x6) (fun x89 => gW x86 true (fun K => binIntW .mul (Value.int .i64 2) x89 K) (fun x90 => gW x86 true (fun K => minW x88 [x90] K) (fun x91 => gW x86 true (fun K => binIntW .eql x87 x91 K) (fun x92 => gW x86 true (fun K => K x92) (fun x93 => gW x93 false (fun K => K x30) (fun x94 => gW x93 false (fun K => CP Tryz.prog Fn.machine_Machine_Now [x94] K) (fun x95 => gW x93 false (fun K => binIntW .eql x95 (Value.int .u64 4611686018427387903) K) (fun x96 => gW x86 true (fun K => pickW x93 (Value.bool true) x96 K) (fun x97 => pickW x86 x97 (Value.bool false) (fun x98 => K x98)))))))))))))))))))))))))))))))))))))))))))))))))))

/-- top_awake -/
def S_top_awake (K : KV) : World → Prop :=
  buildW [(Value.int .i64 0), (Value.int .i64 0), (Value.int .i64 0), (Value.int .i64 0), (Value.int .u64 0)] [(0, 1, (Value.int .i64 40)), (1, 1, (Value.int .i64 4))] (fun x1 => buildW [(Value.int .i64 0), (Value.int .i64 0), (Value.int .i64 0), (Value.int .i64 0), (Value.int .u64 0), (Value.int .i64 0), (Value.int .i64 0), (Value.int .i64 0)] [(0, 5, x1), (6, 1, (Value.int .i64 9)), (7, 1, (Value.int .i64 20))] (fun x2 => CP Tryz.prog Fn.top_adds [(Value.int .i64 6)] (fun x3 => buildSliceW [(Value.slice none 0 0)] 1 [(0, 1, x3)] (fun x4 => buildSliceW [(Value.slice none 0 0)] 1 [(0, 1, x4)] (fun x5 => CP Tryz.prog Fn.machine_New [x2, x5] (fun x6 => eqNilW .eql x6 (Value.pointer none) (fun x7 => condP x7 (K (Value.bool false)) (loopW1 (Value.int .i64 0) (fun J1 x8 => binIntW .lss x8 (Value.int .i64 40) (fun x9 => condP x9 (CP Tryz.prog Fn.machine_Machine_Pick [x6, (Value.int .i64 0), (Value.int .u8 0)] (fun x10 => binIntW .add x8 (Value.int .i64 1) (fun x11 => J1 x11))) (CP Tryz.prog Fn.machine_Machine_Words [x6] (fun x12 => CP Tryz.prog Fn.machine_Machine_Results [x6, (Value.int .i64 0)] (fun x13 => lenW x12 (fun x14 => binIntW .eql x14 (Value.int .i64 40) (fun x15 => gW x15 true (fun K => K x12) (fun x16 => gW x15 true (fun K => idxW 1 x16 (Value.int .i64 6) K) (fun x17 => gW x15 true (fun K => load1W x17 K) (fun x18 => gW x15 true (fun K => binIntW .eql x18 (Value.int .u64 1) K) (fun x19 => pickW x15 x19 (Value.bool false) (fun x20 => gW x20 true (fun K => K x13) (fun x21 => gW x20 true (fun K => lenW x21 K) (fun x22 => gW x20 true (fun K => binIntW .eql x22 (Value.int .i64 1) K) (fun x23 => pickW x20 x23 (Value.bool false) (fun x24 => gW x24 true (fun K => K x13) (fun x25 => gW x24 true (fun K => idxW 4 x25 (Value.int .i64 0) K) (fun x26 => gW x24 true (fun K => addW 2 x26 K) (fun x27 => gW x24 true (fun K => load1W x27 K) (fun x28 => gW x24 true (fun K => eqStrW .eql x28 (strV [49]) K) (fun x29 => pickW x24 x29 (Value.bool false) (fun x30 => gW x30 true (fun K => K x6) (fun x31 => gW x30 true (fun K => CP Tryz.prog Fn.machine_Machine_Rests [x31] K) (fun x32 => pickW x30 x32 (Value.bool false) (fun x33 => gW x33 true (fun K => K x6) (fun x34 => gW x33 true (fun K => CP Tryz.prog Fn.machine_Machine_Attempts [x34] K) (fun x35 => gW x33 true (fun K => lenW x35 K) (fun x36 => gW x33 true (fun K => binIntW .eql x36 (Value.int .i64 1) K) (fun x37 => pickW x33 x37 (Value.bool false) (fun x38 => K x38))))))))))))))))))))))))))))))))))))))

/-- machine_New -/
def S_machine_New (a0 a1 : Value) (K : KV) : World → Prop :=
  boxW a0 (fun x1 => lenW a1 (fun x2 => minW x2 [(Value.int .i64 4)] (fun x3 => sliceW 1 a1 none (some x3) (fun x4 => lenW x4 (fun x5 => addW 0 x1 (fun x6 => addW 3 x6 (fun x7 => storeW 1 x7 x5 (fun _ => loadNW 8 x1 (fun x9 => CP Tryz.prog Fn.attempt_Held [x9] (fun x10 => storeW 8 x1 x10 (fun _ => drewW (loadNW 8 x1 (fun x12 => addW 0 x1 (fun x13 => loadNW 5 x13 (fun x14 => CP Tryz.prog Fn.mem_New [x14] (fun x15 => andP (andP (trueP) (andP (loadNW 8 x1 (fun v => eqP v x12)) (trueP))) (buildW [(Value.int .i64 0), (Value.int .i64 0), (Value.int .i64 0), (Value.int .i64 0), (Value.int .u64 0), (Value.int .i64 0), (Value.int .i64 0), (Value.int .i64 0), (Value.pointer none), (Value.slice none 0 0), (Value.int .i64 0), (Value.int .i64 0), (Value.int .i64 0), (Value.int .u64 0), (Value.int .u64 0), (Value.int .u64 0), (Value.bool false), (Value.int .i64 0), (Value.int .u64 0), (Value.bool false), (Value.int .i64 0), (Value.bool false)] [(0, 8, x12), (8, 1, x15)] (fun x16 => boxW x16 (fun x17 => andP (andP (trueP) (trueP)) (addW 0 x1 (fun x18 => addW 0 x18 (fun x19 => load1W x19 (fun x20 => CP Tryz.prog Fn.arena_Fresh [x20] (fun x21 => lenW x21 (fun x22 => loopW1 (Value.int .i64 0) (fun J1 x23 => binIntW .lss x23 x22 (fun x24 => condP x24 (idxW 1 x21 x23 (fun x25 => load1W x25 (fun x26 => binIntW .neq x26 (Value.int .u64 0) (fun x27 => joinW0 (binIntW .add x23 (Value.int .i64 1) (fun x28 => J1 x28)) (fun j1 => condP x27 (nilW x17 (fun x29 => addW 8 x29 (fun x30 => load1W x30 (fun x31 => buildW [(Value.int .i64 0), (Value.int .i64 0), (Value.int .u64 0), (Value.int .u64 0), (Value.int .u64 0), (Value.bool false), (Value.int .i64 0), (Value.int .u64 0), (Value.bool false), (Value.int .i64 0)] [(0, 1, (Value.int .i64 2)), (1, 1, x23), (3, 1, x26)] (fun x32 => CP Tryz.prog Fn.mem_Mem_Do [x31, x32] (fun x33 => j1)))))) (j1)))))) (addW 0 x1 (fun x34 => addW 3 x34 (fun x35 => load1W x35 (fun x36 => loopW1 (Value.int .i64 0) (fun J2 x37 => binIntW .lss x37 x36 (fun x38 => condP x38 (lenW x4 (fun x39 => binIntW .lss x37 x39 (fun x40 => joinW1 (fun x41 => drewW (nilW x17 (fun x42 => addW 9 x42 (fun x43 => load1W x43 (fun x44 => loadNW 8 x1 (fun x45 => CP Tryz.prog Fn.thread_New [x37, x45, x41] (fun x46 => andP (andP (trueP) (andP (load1W x43 (fun v => eqP v x44)) (trueP))) (buildSliceW [(Value.pointer none)] 1 [(0, 1, x46)] (fun x47 => andP (andP (load1W x43 (fun v => eqP v x44)) (trueP)) (appendW 1 8 x44 x47 (fun x48 => andP (andP (trueP) (trueP)) (nilW x17 (fun x49 => addW 9 x49 (fun x50 => storeW 1 x50 x48 (fun _ => andP (trueP) (binIntW .add x37 (Value.int .i64 1) (fun x52 => J2 x52))))))))))))))))) (fun j2 => condP x40 (idxW 1 x4 x37 (fun x53 => load1W x53 (fun x54 => j2 x54))) (j2 (Value.slice none 0 0)))))) (K x17))))))))))))))))))))))))))))))))))

/-- machine_Machine_Words -/
def S_machine_Machine_Words (a0 : Value) (K : KV) : World → Prop :=
  nilW a0 (fun x1 => addW 8 x1 (fun x2 => load1W x2 (fun x3 => CP Tryz.prog Fn.mem_Mem_Words [x3] (fun x4 => K x4))))

/-- machine_Machine_Pick -/
def S_machine_Machine_Pick (a0 a1 a2 : Value) (K : KV) : World → Prop :=
  binIntW .lss a1 (Value.int .i64 0) (fun x1 => gW x1 false (fun K => K a1) (fun x2 => gW x1 false (fun K => K a0) (fun x3 => gW x1 false (fun K => nilW x3 K) (fun x4 => gW x1 false (fun K => addW 9 x4 K) (fun x5 => gW x1 false (fun K => load1W x5 K) (fun x6 => gW x1 false (fun K => lenW x6 K) (fun x7 => gW x1 false (fun K => binIntW .geq x2 x7 K) (fun x8 => pickW x1 (Value.bool true) x8 (fun x9 => condP x9 (K (Value.int .i64 1)) (nilW a0 (fun x10 => addW 10 x10 (fun x11 => load1W x11 (fun x12 => binIntW .add x12 (Value.int .i64 1) (fun x13 => nilW a0 (fun x14 => addW 10 x14 (fun x15 => storeW 1 x15 x13 (fun _ => nilW a0 (fun x17 => addW 9 x17 (fun x18 => load1W x18 (fun x19 => idxW 1 x19 a1 (fun x20 => load1W x20 (fun x21 => CP Tryz.prog Fn.thread_Thread_Next [x21] (fun x22 => extractW 0 x22 (fun x23 => extractW 1 x22 (fun x24 => nilW a0 (fun x25 => addW 11 x25 (fun x26 => storeW 10 x26 x23 (fun _ => nilW a0 (fun x28 => addW 21 x28 (fun x29 => storeW 1 x29 x24 (fun _ => nilW a0 (fun x31 => addW 21 x31 (fun x32 => load1W x32 (fun x33 => notW x33 (fun x34 => condP x34 (CP Tryz.prog Fn.thread_Thread_Pause [x21] (fun x35 => K (Value.int .i64 0))) (drewW (nilW a0 (fun x36 => addW 8 x36 (fun x37 => load1W x37 (fun x38 => nilW a0 (fun x39 => addW 11 x39 (fun x40 => loadNW 10 x40 (fun x41 => nilW a0 (fun x42 => addW 10 x42 (fun x43 => load1W x43 (fun x44 => CP Tryz.prog Fn.mem_Mem_Do [x38, x41] (fun x45 => andP (andP (load1W x43 (fun v => eqP v x44)) (andP (trueP) (andP (trueP) (trueP)))) (CP Tryz.prog Fn.thread_Thread_Tell [x21, x45, a2, x44] (fun x46 => andP (andP (trueP) (trueP)) (nilW a0 (fun x47 => addW 11 x47 (fun x48 => addW 0 x48 (fun x49 => load1W x49 (fun x50 => binIntW .neq x50 (Value.int .i64 5) (fun x51 => condP x51 (K (Value.int .i64 0)) (nilW a0 (fun x52 => addW 9 x52 (fun x53 => load1W x53 (fun x54 => lenW x54 (fun x55 => loopW1 (Value.int .i64 0) (fun J1 x56 => binIntW .lss x56 x55 (fun x57 => condP x57 (idxW 1 x54 x56 (fun x58 => load1W x58 (fun x59 => binIntW .neq x56 a1 (fun x60 => joinW0 (binIntW .add x56 (Value.int .i64 1) (fun x61 => J1 x61)) (fun j1 => condP x60 (drewW (nilW a0 (fun x62 => addW 11 x62 (fun x63 => addW 1 x63 (fun x64 => load1W x64 (fun x65 => nilW a0 (fun x66 => addW 11 x66 (fun x67 => addW 7 x67 (fun x68 => addW 0 x68 (fun x69 => load1W x69 (fun x70 => CP Tryz.prog Fn.thread_Thread_Wake [x59, x65, x70] (fun x71 => andP (andP (trueP) (andP (trueP) (trueP))) (j1))))))))))))) (j1)))))) (K (Value.int .i64 0))))))))))))))))))))))))))))))))))))))))))))))))))))))))))))))))

/-- machine_Machine_Attempts -/
def S_machine_Machine_Attempts (a0 : Value) (K : KV) : World → Prop :=
  nilW a0 (fun x1 => addW 9 x1 (fun x2 => load1W x2 (fun x3 => lenW x3 (fun x4 => loopW2 (Value.slice none 0 0) (Value.int .i64 0) (fun J1 x5 x6 => binIntW .lss x6 x4 (fun x7 => condP x7 (idxW 1 x3 x6 (fun x8 => load1W x8 (fun x9 => CP Tryz.prog Fn.thread_Thread_Attempts [x9] (fun x10 => appendW 14 168 x5 x10 (fun x11 => binIntW .add x6 (Value.int .i64 1) (fun x12 => J1 x11 x12)))))) (K x5)))))))

/-- top_adds -/
def S_top_adds (a0 : Value) (K : KV) : World → Prop :=
  newW #[(Value.slice none 0 0)] (fun x1 => buildW [(Value.int .i64 0), (Value.int .i64 0), (Value.int .i64 0), (Value.int .i64 0), (Value.int .u64 0)] [(0, 1, (Value.int .i64 8)), (1, 1, (Value.int .i64 0)), (2, 1, (Value.int .i64 7)), (3, 1, a0)] (fun x2 => buildW [(Value.int .i64 0), (Value.int .i64 0), (Value.int .i64 0), (Value.int .i64 0), (Value.int .u64 0)] [(0, 1, (Value.int .i64 1)), (1, 1, (Value.int .i64 1)), (4, 1, (Value.int .u64 1))] (fun x3 => buildW [(Value.int .i64 0), (Value.int .i64 0), (Value.int .i64 0), (Value.int .i64 0), (Value.int .u64 0)] [(0, 1, (Value.int .i64 3)), (1, 1, (Value.int .i64 0)), (2, 1, (Value.int .i64 0)), (3, 1, (Value.int .i64 1))] (fun x4 => buildW [(Value.int .i64 0), (Value.int .i64 0), (Value.int .i64 0), (Value.int .i64 0), (Value.int .u64 0)] [(0, 1, (Value.int .i64 9)), (1, 1, (Value.int .i64 7)), (2, 1, (Value.int .i64 0)), (3, 1, a0)] (fun x5 => buildW [(Value.int .i64 0), (Value.int .i64 0), (Value.int .i64 0), (Value.int .i64 0), (Value.int .u64 0)] [(0, 1, (Value.int .i64 21)), (1, 1, (Value.int .i64 0))] (fun x6 => buildSliceW [(Value.int .i64 0), (Value.int .i64 0), (Value.int .i64 0), (Value.int .i64 0), (Value.int .u64 0)] 5 [(0, 5, x2), (5, 5, x3), (10, 5, x4), (15, 5, x5), (20, 5, x6)] (fun x7 => buildW [(Value.slice none 0 0)] [(0, 1, x7)] (fun x8 => storeW 1 x1 x8 (fun _ => loadNW 1 x1 (fun x10 => K x10))))))))))

/-- top_settled -/
def S_top_settled (a0 a1 : Value) (K : KV) : World → Prop :=
  loopW1 (Value.int .i64 0) (fun J1 x1 => binIntW .lss x1 (Value.int .i64 200000) (fun x2 => condP x2 (CP Tryz.prog Fn.machine_Machine_Rests [a0] (fun x3 => condP x3 (K (Value.bool true)) (lenW a1 (fun x4 => binIntW .gtr x4 (Value.int .i64 0) (fun x5 => joinW1 (fun x6 => loopW1 (Value.int .i64 0) (fun J2 x7 => CP Tryz.prog Fn.machine_Machine_Threads [a0] (fun x8 => binIntW .lss x7 x8 (fun x9 => condP x9 (CP Tryz.prog Fn.machine_Machine_Pick [a0, x7, x6] (fun x10 => binIntW .add x7 (Value.int .i64 1) (fun x11 => J2 x11))) (binIntW .add x1 (Value.int .i64 1) (fun x12 => J1 x12)))))) (fun j1 => condP x5 (lenW a1 (fun x13 => binIntW .rem x1 x13 (fun x14 => idxW 1 a1 x14 (fun x15 => load1W x15 (fun x16 => j1 x16))))) (j1 (Value.int .u8 0)))))))) (CP Tryz.prog Fn.machine_Machine_Rests [a0] (fun x17 => K x17))))

/-- machine_Machine_Results -/
def S_machine_Machine_Results (a0 a1 : Value) (K : KV) : World → Prop :=
  CP Tryz.prog Fn.machine_Machine_of [a0, a1] (fun x1 => eqNilW .neq x1 (Value.pointer none) (fun x2 => condP x2 (CP Tryz.prog Fn.thread_Thread_Results [x1] (fun x3 => K x3)) (K (Value.slice none 0 0))))

/-- machine_Machine_Now -/
def S_machine_Machine_Now (a0 : Value) (K : KV) : World → Prop :=
  nilW a0 (fun x1 => addW 8 x1 (fun x2 => load1W x2 (fun x3 => CP Tryz.prog Fn.mem_Mem_Now [x3] (fun x4 => K x4))))

/-- machine_Machine_Threads -/
def S_machine_Machine_Threads (a0 : Value) (K : KV) : World → Prop :=
  nilW a0 (fun x1 => addW 9 x1 (fun x2 => load1W x2 (fun x3 => lenW x3 (fun x4 => K x4))))

/-- machine_Machine_Rests -/
def S_machine_Machine_Rests (a0 : Value) (K : KV) : World → Prop :=
  nilW a0 (fun x1 => addW 9 x1 (fun x2 => load1W x2 (fun x3 => lenW x3 (fun x4 => loopW1 (Value.int .i64 0) (fun J1 x5 => binIntW .lss x5 x4 (fun x6 => condP x6 (idxW 1 x3 x5 (fun x7 => load1W x7 (fun x8 => CP Tryz.prog Fn.thread_Thread_State [x8] (fun x9 => binIntW .neq x9 (Value.int .i64 6) (fun x10 => gW x10 true (fun K => K x9) (fun x11 => gW x10 true (fun K => binIntW .neq x11 (Value.int .i64 4) K) (fun x12 => pickW x10 x12 (Value.bool false) (fun x13 => condP x13 (K (Value.bool false)) (binIntW .add x5 (Value.int .i64 1) (fun x14 => J1 x14)))))))))) (K (Value.bool true))))))))

/-- attempt_Held -/
def S_attempt_Held (a0 : Value) (K : KV) : World → Prop :=
  boxW a0 (fun x1 => newW #[(Value.int .i64 0), (Value.int .i64 0), (Value.int .i64 0), (Value.int .i64 0), (Value.int .u64 0), (Value.int .i64 0), (Value.int .i64 0), (Value.int .i64 0)] (fun x2 => drewW (addW 0 x1 (fun x3 => loadNW 5 x3 (fun x4 => addW 5 x1 (fun x5 => load1W x5 (fun x6 => minW x6 [(Value.int .i64 4)] (fun x7 => maxW (Value.int .i64 0) [x7] (fun x8 => addW 6 x1 (fun x9 => load1W x9 (fun x10 => minW x10 [(Value.int .i64 96)] (fun x11 => maxW (Value.int .i64 0) [x11] (fun x12 => addW 7 x1 (fun x13 => load1W x13 (fun x14 => minW x14 [(Value.int .i64 400)] (fun x15 => maxW (Value.int .i64 0) [x15] (fun x16 => CP Tryz.prog Fn.mem_Held [x4] (fun x17 => andP (andP (load1W x13 (fun v => eqP v x14)) (andP (load1W x9 (fun v => eqP v x10)) (andP (load1W x5 (fun v => eqP v x6)) (andP (trueP) (trueP))))) (buildW [(Value.int .i64 0), (Value.int .i64 0), (Value.int .i64 0), (Value.int .i64 0), (Value.int .u64 0), (Value.int .i64 0), (Value.int .i64 0), (Value.int .i64 0)] [(0, 5, x17), (5, 1, x8), (6, 1, x12), (7, 1, x16)] (fun x18 => storeW 8 x2 x18 (fun _ => andP (andP (trueP) (andP (trueP) (andP (trueP) (trueP)))) (loadNW 8 x2 (fun x20 => K x20)))))))))))))))))))))))

/-- mem_New -/
def S_mem_New (a0 : Value) (K : KV) : World → Prop :=
  boxW a0 (fun x1 => loadNW 5 x1 (fun x2 => CP Tryz.prog Fn.mem_Held [x2] (fun x3 => storeW 5 x1 x3 (fun _ => drewW (loadNW 5 x1 (fun x5 => addW 0 x1 (fun x6 => load1W x6 (fun x7 => addW 1 x1 (fun x8 => load1W x8 (fun x9 => addW 2 x1 (fun x10 => load1W x10 (fun x11 => addW 4 x1 (fun x12 => load1W x12 (fun x13 => addW 3 x1 (fun x14 => load1W x14 (fun x15 => CP Tryz.prog Fn.heap_New [x7] (fun x16 => andP (andP (load1W x14 (fun v => eqP v x15)) (andP (load1W x12 (fun v => eqP v x13)) (andP (load1W x10 (fun v => eqP v x11)) (andP (load1W x8 (fun v => eqP v x9)) (andP (trueP) (andP (loadNW 5 x1 (fun v => eqP v x5)) (trueP))))))) (CP Tryz.prog Fn.stripe_New [x9, x11] (fun x17 => andP (andP (load1W x14 (fun v => eqP v x15)) (andP (load1W x12 (fun v => eqP v x13)) (andP (trueP) (andP (trueP) (andP (loadNW 5 x1 (fun v => eqP v x5)) (trueP)))))) (CP Tryz.prog Fn.clock_New [x13] (fun x18 => andP (andP (load1W x14 (fun v => eqP v x15)) (andP (trueP) (andP (loadNW 5 x1 (fun v => eqP v x5)) (trueP)))) (CP Tryz.prog Fn.epoch_New [x15] (fun x19 => andP (andP (trueP) (andP (loadNW 5 x1 (fun v => eqP v x5)) (trueP))) (buildW [(Value.int .i64 0), (Value.int .i64 0), (Value.int .i64 0), (Value.int .i64 0), (Value.int .u64 0), (Value.pointer none), (Value.pointer none), (Value.pointer none), (Value.pointer none), (Value.int .i64 0)] [(0, 5, x5), (5, 1, x16), (6, 1, x17), (7, 1, x18), (8, 1, x19)] (fun x20 => boxW x20 (fun x21 => andP (andP (trueP) (trueP)) (K x21)))))))))))))))))))))))))))

/-- arena_Fresh -/
def S_arena_Fresh (a0 : Value) (K : KV) : World → Prop :=
  minW a0 [(Value.int .i64 256)] (fun x1 => maxW (Value.int .i64 32) [x1] (fun x2 => makeSliceW 8 [(Value.int .u64 0)] x2 x2 (fun x3 => idxW 1 x3 (Value.int .i64 5) (fun x4 => storeW 1 x4 (Value.int .u64 14) (fun _ => K x3)))))

/-- mem_Mem_Do -/
def S_mem_Mem_Do (a0 a1 : Value) (K : KV) : World → Prop :=
  boxW a1 (fun x1 => newW #[(Value.int .u64 0), (Value.int .u64 0), (Value.bool false), (Value.int .i64 0), (Value.bool false), (Value.int .i64 0)] (fun x2 => loadNW 10 x1 (fun x3 => CP Tryz.prog Fn.mem_Mem_do [a0, x3] (fun x4 => newW #[(Value.int .u64 0), (Value.int .u64 0), (Value.bool false), (Value.int .i64 0), (Value.bool false), (Value.int .i64 0)] (fun x5 => storeW 6 x5 x4 (fun _ => addW 5 x5 (fun x7 => load1W x7 (fun x8 => binIntW .eql x8 (Value.int .i64 0) (fun x9 => joinW0 (loadNW 6 x5 (fun x10 => storeW 6 x2 x10 (fun _ => loadNW 6 x2 (fun x12 => K x12)))) (fun j1 => condP x9 (nilW a0 (fun x13 => addW 9 x13 (fun x14 => load1W x14 (fun x15 => binIntW .add x15 (Value.int .i64 1) (fun x16 => nilW a0 (fun x17 => addW 9 x17 (fun x18 => storeW 1 x18 x16 (fun _ => j1)))))))) (j1)))))))))))

/-- thread_New -/
def S_thread_New (a0 a1 a2 : Value) (K : KV) : World → Prop :=
  boxW a1 (fun x1 => loadNW 8 x1 (fun x2 => CP Tryz.prog Fn.attempt_Held [x2] (fun x3 => storeW 8 x1 x3 (fun _ => drewW (addW 0 x1 (fun x5 => addW 3 x5 (fun x6 => load1W x6 (fun x7 => binIntW .sub x7 (Value.int .i64 1) (fun x8 => minW a0 [x8] (fun x9 => maxW (Value.int .i64 0) [x9] (fun x10 => loadNW 8 x1 (fun x11 => CP Tryz.prog Fn.limbo_New [] (fun x12 => andP (andP (loadNW 8 x1 (fun v => eqP v x11)) (andP (load1W x6 (fun v => eqP v x7)) (trueP))) (buildW [(Value.int .i64 0), (Value.int .i64 0), (Value.int .i64 0), (Value.int .i64 0), (Value.int .i64 0), (Value.int .u64 0), (Value.int .i64 0), (Value.int .i64 0), (Value.int .i64 0), (Value.slice none 0 0), (Value.int .i64 0), (Value.int .i64 0), (Value.bool false), (Value.slice none 0 0), (Value.int .i64 0), (Value.int .i64 0), (Value.pointer none), (Value.int .i64 0), (Value.bool false), (Value.slice none 0 0), (Value.slice none 0 0), (Value.pointer none), (Value.slice none 0 0), (Value.int .i64 0), (Value.int .u64 0), (Value.bool false), (Value.int .i64 0)] [(0, 1, x10), (1, 8, x11), (21, 1, x12), (10, 1, (Value.int .i64 (-1)))] (fun x13 => boxW x13 (fun x14 => andP (andP (trueP) (andP (trueP) (trueP))) (lenW a2 (fun x15 => minW x15 [(Value.int .i64 6)] (fun x16 => sliceW 1 a2 none (some x16) (fun x17 => lenW x17 (fun x18 => loopW1 (Value.int .i64 0) (fun J1 x19 => binIntW .lss x19 x18 (fun x20 => condP x20 (idxW 1 x17 x19 (fun x21 => loadNW 1 x21 (fun x22 => newW #[(Value.slice none 0 0)] (fun x23 => storeW 1 x23 x22 (fun _ => drewW (nilW x14 (fun x25 => addW 9 x25 (fun x26 => load1W x26 (fun x27 => addW 0 x23 (fun x28 => load1W x28 (fun x29 => CP Tryz.prog Fn.slices_Clone_api_Ins_api_Ins [x29] (fun x30 => andP (andP (trueP) (andP (load1W x26 (fun v => eqP v x27)) (trueP))) (buildW [(Value.slice none 0 0)] [(0, 1, x30)] (fun x31 => buildSliceW [(Value.slice none 0 0)] 1 [(0, 1, x31)] (fun x32 => andP (andP (load1W x26 (fun v => eqP v x27)) (trueP)) (appendW 1 24 x27 x32 (fun x33 => andP (andP (trueP) (trueP)) (nilW x14 (fun x34 => addW 9 x34 (fun x35 => storeW 1 x35 x33 (fun _ => andP (trueP) (binIntW .add x19 (Value.int .i64 1) (fun x37 => J1 x37))))))))))))))))))))))) (CP Tryz.prog Fn.thread_Thread_following [x14] (fun x38 => K x14)))))))))))))))))))))))))

/-- mem_Mem_Words -/
def S_mem_Mem_Words (a0 : Value) (K : KV) : World → Prop :=
  nilW a0 (fun x1 => addW 5 x1 (fun x2 => load1W x2 (fun x3 => CP Tryz.prog Fn.heap_Heap_All [x3] (fun x4 => K x4))))

/-- thread_Thread_Next -/
def S_thread_Thread_Next (a0 : Value) (K : KV) : World → Prop :=
  newW #[(Value.int .i64 0), (Value.int .i64 0), (Value.int .u64 0), (Value.int .u64 0), (Value.int .u64 0), (Value.bool false), (Value.int .i64 0), (Value.int .u64 0), (Value.bool false), (Value.int .i64 0)] (fun x1 => nilW a0 (fun x2 => addW 11 x2 (fun x3 => load1W x3 (fun x4 => binIntW .eql x4 (Value.int .i64 1) (fun x5 => condP x5 (nilW a0 (fun x6 => addW 16 x6 (fun x7 => load1W x7 (fun x8 => CP Tryz.prog Fn.attempt_Attempt_Next [x8] (fun x9 => extractW 0 x9 (fun x10 => extractW 1 x9 (fun x11 => storeW 10 x1 x10 (fun _ => loadNW 10 x1 (fun x13 => K (Value.tuple #[x13, x11])))))))))) (binIntW .eql x4 (Value.int .i64 2) (fun x14 => condP x14 (nilW a0 (fun x15 => addW 23 x15 (fun x16 => load1W x16 (fun x17 => buildW [(Value.int .i64 0), (Value.int .i64 0), (Value.int .u64 0), (Value.int .u64 0), (Value.int .u64 0), (Value.bool false), (Value.int .i64 0), (Value.int .u64 0), (Value.bool false), (Value.int .i64 0)] [(0, 1, (Value.int .i64 8)), (1, 1, x17)] (fun x18 => storeW 10 x1 x18 (fun _ => loadNW 10 x1 (fun x20 => K (Value.tuple #[x20, (Value.bool true)])))))))) (binIntW .eql x4 (Value.int .i64 5) (fun x21 => condP x21 (nilW a0 (fun x22 => addW 22 x22 (fun x23 => load1W x23 (fun x24 => lenW x24 (fun x25 => buildW [(Value.int .i64 0), (Value.int .i64 0), (Value.int .u64 0), (Value.int .u64 0), (Value.int .u64 0), (Value.bool false), (Value.int .i64 0), (Value.int .u64 0), (Value.bool false), (Value.int .i64 0)] [(0, 1, (Value.int .i64 8)), (1, 1, x25)] (fun x26 => storeW 10 x1 x26 (fun _ => loadNW 10 x1 (fun x28 => K (Value.tuple #[x28, (Value.bool true)]))))))))) (buildW [(Value.int .i64 0), (Value.int .i64 0), (Value.int .u64 0), (Value.int .u64 0), (Value.int .u64 0), (Value.bool false), (Value.int .i64 0), (Value.int .u64 0), (Value.bool false), (Value.int .i64 0)] [] (fun x29 => storeW 10 x1 x29 (fun _ => loadNW 10 x1 (fun x31 => K (Value.tuple #[x31, (Value.bool false)]))))))))))))))

/-- thread_Thread_Pause -/
def S_thread_Thread_Pause (a0 : Value) (K : KV) : World → Prop :=
  nilW a0 (fun x1 => addW 11 x1 (fun x2 => load1W x2 (fun x3 => binIntW .neq x3 (Value.int .i64 3) (fun x4 => condP x4 (K (Value.tuple #[])) (nilW a0 (fun x5 => addW 26 x5 (fun x6 => load1W x6 (fun x7 => binIntW .sub x7 (Value.int .i64 1) (fun x8 => nilW a0 (fun x9 => addW 26 x9 (fun x10 => storeW 1 x10 x8 (fun _ => nilW a0 (fun x12 => addW 26 x12 (fun x13 => load1W x13 (fun x14 => binIntW .eql x14 (Value.int .i64 0) (fun x15 => joinW0 (K (Value.tuple #[])) (fun j1 => condP x15 (CP Tryz.prog Fn.thread_Thread_again [a0] (fun x16 => j1)) (j1))))))))))))))))))

/-- thread_Thread_Tell -/
def S_thread_Thread_Tell (a0 a1 a2 a3 : Value) (K : KV) : World → Prop :=
  boxW a1 (fun x1 => nilW a0 (fun x2 => addW 11 x2 (fun x3 => load1W x3 (fun x4 => binIntW .eql x4 (Value.int .i64 1) (fun x5 => joinW0 (K (Value.tuple #[])) (fun j1 => condP x5 (nilW a0 (fun x6 => addW 16 x6 (fun x7 => load1W x7 (fun x8 => CP Tryz.prog Fn.attempt_Attempt_Begin [x8] (fun x9 => extractW 0 x9 (fun x10 => extractW 1 x9 (fun x11 => drewW (nilW a0 (fun x12 => addW 16 x12 (fun x13 => load1W x13 (fun x14 => loadNW 6 x1 (fun x15 => CP Tryz.prog Fn.attempt_Attempt_Tell [x14, x15] (fun x16 => andP (andP (trueP) (andP (trueP) (trueP))) (nilW a0 (fun x17 => addW 16 x17 (fun x18 => load1W x18 (fun x19 => CP Tryz.prog Fn.attempt_Attempt_Begin [x19] (fun x20 => extractW 0 x20 (fun x21 => extractW 1 x20 (fun x22 => gW x22 true (fun K => K x11) (fun x23 => gW x22 true (fun K => notW x23 K) (fun x24 => pickW x22 x24 (Value.bool false) (fun x25 => joinW0 (nilW a0 (fun x26 => addW 16 x26 (fun x27 => load1W x27 (fun x28 => CP Tryz.prog Fn.attempt_Attempt_End [x28] (fun x29 => binIntW .neq x29 (Value.int .i64 0) (fun x30 => joinW0 (j1) (fun j3 => condP x30 (CP Tryz.prog Fn.thread_Thread_ended [a0, a2, a3] (fun x31 => j3)) (j3)))))))) (fun j2 => condP x25 (nilW a0 (fun x32 => addW 17 x32 (fun x33 => storeW 1 x33 a3 (fun _ => j2)))) (j2))))))))))))))))))))))))) (binIntW .eql x4 (Value.int .i64 2) (fun x35 => joinW0 (j1) (fun j4 => condP x35 (loadNW 6 x1 (fun x36 => CP Tryz.prog Fn.thread_Thread_yield [a0, x36, a2] (fun x37 => j4))) (binIntW .eql x4 (Value.int .i64 5) (fun x38 => joinW0 (j4) (fun j5 => condP x38 (addW 5 x1 (fun x39 => load1W x39 (fun x40 => binIntW .neq x40 (Value.int .i64 0) (fun x41 => joinW0 (addW 0 x1 (fun x42 => load1W x42 (fun x43 => CP Tryz.prog Fn.thread_Thread_looked [a0, x43] (fun x44 => j5)))) (fun j6 => condP x41 (addW 0 x1 (fun x45 => storeW 1 x45 (Value.int .u64 0) (fun _ => j6))) (j6)))))) (j5)))))))))))))

/-- thread_Thread_Wake -/
def S_thread_Thread_Wake (a0 a1 a2 : Value) (K : KV) : World → Prop :=
  nilW a0 (fun x1 => addW 16 x1 (fun x2 => load1W x2 (fun x3 => eqNilW .eql x3 (Value.pointer none) (fun x4 => condP x4 (K (Value.tuple #[])) (nilW a0 (fun x5 => addW 16 x5 (fun x6 => load1W x6 (fun x7 => CP Tryz.prog Fn.attempt_Attempt_Seen [x7] (fun x8 => lenW x8 (fun x9 => loopW1 (Value.int .i64 0) (fun J1 x10 => binIntW .lss x10 x9 (fun x11 => condP x11 (idxW 2 x8 x10 (fun x12 => loadNW 2 x12 (fun x13 => newW #[(Value.int .i64 0), (Value.int .u64 0)] (fun x14 => storeW 2 x14 x13 (fun _ => addW 0 x14 (fun x16 => load1W x16 (fun x17 => binIntW .neq x17 a1 (fun x18 => gW x18 false (fun K => addW 1 x14 K) (fun x19 => gW x18 false (fun K => load1W x19 K) (fun x20 => gW x18 false (fun K => K a2) (fun x21 => gW x18 false (fun K => binIntW .eql x20 x21 K) (fun x22 => pickW x18 (Value.bool true) x22 (fun x23 => condP x23 (binIntW .add x10 (Value.int .i64 1) (fun x24 => J1 x24)) (nilW a0 (fun x25 => addW 11 x25 (fun x26 => load1W x26 (fun x27 => binIntW .eql x27 (Value.int .i64 4) (fun x28 => joinW0 (K (Value.tuple #[])) (fun j1 => condP x28 (CP Tryz.prog Fn.thread_Thread_again [a0] (fun x29 => j1)) (nilW a0 (fun x30 => addW 11 x30 (fun x31 => load1W x31 (fun x32 => binIntW .eql x32 (Value.int .i64 1) (fun x33 => gW x33 true (fun K => K a0) (fun x34 => gW x33 true (fun K => nilW x34 K) (fun x35 => gW x33 true (fun K => addW 16 x35 K) (fun x36 => gW x33 true (fun K => load1W x36 K) (fun x37 => gW x33 true (fun K => CP Tryz.prog Fn.attempt_Attempt_Blocking [x37] K) (fun x38 => pickW x33 x38 (Value.bool false) (fun x39 => joinW0 (j1) (fun j2 => condP x39 (nilW a0 (fun x40 => addW 18 x40 (fun x41 => storeW 1 x41 (Value.bool true) (fun _ => j2)))) (j2)))))))))))))))))))))))))))))))) (K (Value.tuple #[]))))))))))))))

/-- thread_Thread_Attempts -/
def S_thread_Thread_Attempts (a0 : Value) (K : KV) : World → Prop :=
  nilW a0 (fun x1 => addW 19 x1 (fun x2 => load1W x2 (fun x3 => lenW x3 (fun x4 => loopW2 (Value.slice none 0 0) (Value.int .i64 0) (fun J1 x5 x6 => binIntW .lss x6 x4 (fun x7 => condP x7 (idxW 14 x3 x6 (fun x8 => loadNW 14 x8 (fun x9 => newW #[(Value.int .i64 0), (Value.int .i64 0), (Value.int .i64 0), (Value.bool false), (Value.int .i64 0), (Value.int .i64 0), (Value.int .u64 0), (Value.int .u64 0), (Value.int .i64 0), (Value.int .i64 0), (Value.slice none 0 0), (Value.slice none 0 0), (Value.slice none 0 0), (strV [])] (fun x10 => storeW 14 x10 x9 (fun _ => loadNW 14 x10 (fun x12 => CP Tryz.prog Fn.thread_copied [x12] (fun x13 => buildSliceW [(Value.int .i64 0), (Value.int .i64 0), (Value.int .i64 0), (Value.bool false), (Value.int .i64 0), (Value.int .i64 0), (Value.int .u64 0), (Value.int .u64 0), (Value.int .i64 0), (Value.int .i64 0), (Value.slice none 0 0), (Value.slice none 0 0), (Value.slice none 0 0), (strV [])] 1 [(0, 14, x13)] (fun x14 => appendW 14 168 x5 x14 (fun x15 => binIntW .add x6 (Value.int .i64 1) (fun x16 => J1 x15 x16)))))))))) (nilW a0 (fun x17 => addW 11 x17 (fun x18 => load1W x18 (fun x19 => binIntW .eql x19 (Value.int .i64 1) (fun x20 => joinW1 (fun x21 => K x21) (fun j1 => condP x20 (nilW a0 (fun x22 => addW 16 x22 (fun x23 => load1W x23 (fun x24 => CP Tryz.prog Fn.attempt_Attempt_Begin [x24] (fun x25 => extractW 0 x25 (fun x26 => extractW 1 x25 (fun x27 => joinW1 (fun x28 => j1 x28) (fun j2 => condP x27 (CP Tryz.prog Fn.thread_Thread_told [a0, (Value.int .i64 0)] (fun x29 => buildSliceW [(Value.int .i64 0), (Value.int .i64 0), (Value.int .i64 0), (Value.bool false), (Value.int .i64 0), (Value.int .i64 0), (Value.int .u64 0), (Value.int .u64 0), (Value.int .i64 0), (Value.int .i64 0), (Value.slice none 0 0), (Value.slice none 0 0), (Value.slice none 0 0), (strV [])] 1 [(0, 14, x29)] (fun x30 => appendW 14 168 x5 x30 (fun x31 => j2 x31)))) (j2 x5))))))))) (j1 x5)))))))))))))

/-- machine_Machine_of -/
def S_machine_Machine_of (a0 a1 : Value) (K : KV) : World → Prop :=
  binIntW .lss a1 (Value.int .i64 0) (fun x1 => gW x1 false (fun K => K a1) (fun x2 => gW x1 false (fun K => K a0) (fun x3 => gW x1 false (fun K => nilW x3 K) (fun x4 => gW x1 false (fun K => addW 9 x4 K) (fun x5 => gW x1 false (fun K => load1W x5 K) (fun x6 => gW x1 false (fun K => lenW x6 K) (fun x7 => gW x1 false (fun K => binIntW .geq x2 x7 K) (fun x8 => pickW x1 (Value.bool true) x8 (fun x9 => condP x9 (K (Value.pointer none)) (nilW a0 (fun x10 => addW 9 x10 (fun x11 => load1W x11 (fun x12 => idxW 1 x12 a1 (fun x13 => load1W x13 (fun x14 => K x14)))))))))))))))

/-- thread_Thread_Results -/
def S_thread_Thread_Results (a0 : Value) (K : KV) : World → Prop :=
  nilW a0 (fun x1 => addW 20 x1 (fun x2 => load1W x2 (fun x3 => CP Tryz.prog Fn.slices_Clone_api_Result_api_Result [x3] (fun x4 => K x4))))

/-- mem_Mem_Now -/
def S_mem_Mem_Now (a0 : Value) (K : KV) : World → Prop :=
  nilW a0 (fun x1 => addW 7 x1 (fun x2 => load1W x2 (fun x3 => CP Tryz.prog Fn.clock_Clock_Load [x3] (fun x4 => K x4))))

/-- thread_Thread_State -/
def S_thread_Thread_State (a0 : Value) (K : KV) : World → Prop :=
  nilW a0 (fun x1 => addW 11 x1 (fun x2 => load1W x2 (fun x3 => K x3)))

/-- mem_Held -/
def S_mem_Held (a0 : Value) (K : KV) : World → Prop :=
  boxW a0 (fun x1 => newW #[(Value.int .i64 0), (Value.int .i64 0), (Value.int .i64 0), (Value.int .i64 0), (Value.int .u64 0)] (fun x2 => addW 0 x1 (fun x3 => load1W x3 (fun x4 => minW x4 [(Value.int .i64 256)] (fun x5 => maxW (Value.int .i64 32) [x5] (fun x6 => addW 1 x1 (fun x7 => load1W x7 (fun x8 => minW x8 [(Value.int .i64 16)] (fun x9 => maxW (Value.int .i64 1) [x9] (fun x10 => addW 2 x1 (fun x11 => load1W x11 (fun x12 => minW x12 [(Value.int .i64 16)] (fun x13 => maxW (Value.int .i64 1) [x13] (fun x14 => addW 3 x1 (fun x15 => load1W x15 (fun x16 => minW x16 [(Value.int .i64 4)] (fun x17 => maxW (Value.int .i64 1) [x17] (fun x18 => addW 4 x1 (fun x19 => load1W x19 (fun x20 => minW x20 [(Value.int .u64 4611686018427387903)] (fun x21 => buildW [(Value.int .i64 0), (Value.int .i64 0), (Value.int .i64 0), (Value.int .i64 0), (Value.int .u64 0)] [(0, 1, x6), (1, 1, x10), (2, 1, x14), (3, 1, x18), (4, 1, x21)] (fun x22 => storeW 5 x2 x22 (fun _ => loadNW 5 x2 (fun x24 => K x24))))))))))))))))))))))))

/-- heap_New -/
def S_heap_New (a0 : Value) (K : KV) : World → Prop :=
  minW a0 [(Value.int .i64 256)] (fun x1 => maxW (Value.int .i64 32) [x1] (fun x2 => makeSliceW 8 [(Value.int .u64 0)] x2 x2 (fun x3 => buildW [(Value.slice none 0 0)] [(0, 1, x3)] (fun x4 => boxW x4 (fun x5 => K x5)))))

/-- stripe_New -/
def S_stripe_New (a0 a1 : Value) (K : KV) : World → Prop :=
  drewW (CP Tryz.prog Fn.stripe_near [a0, (Value.int .i64 16)] (fun x1 => andP (trueP) (andP (makeSliceW 24 [(Value.int .u64 0), (Value.bool false), (Value.int .i64 0)] x1 x1 (fun x2 => andP (trueP) (CP Tryz.prog Fn.stripe_near [a1, (Value.int .i64 16)] (fun x3 => andP (trueP) (buildW [(Value.slice none 0 0), (Value.int .i64 0)] [(0, 1, x2), (1, 1, x3)] (fun x4 => boxW x4 (fun x5 => andP (trueP) (K x5)))))))) (CP Tryz.prog Fn.stripe_near [a1, (Value.int .i64 16)] (fun x6 => andP (trueP) (makeSliceW 24 [(Value.int .u64 0), (Value.bool false), (Value.int .i64 0)] x1 x1 (fun x7 => andP (trueP) (buildW [(Value.slice none 0 0), (Value.int .i64 0)] [(0, 1, x7), (1, 1, x6)] (fun x8 => boxW x8 (fun x9 => andP (trueP) (K x9)))))))))))

/-- clock_New -/
def S_clock_New (a0 : Value) (K : KV) : World → Prop :=
  minW a0 [(Value.int .u64 4611686018427387903)] (fun x1 => buildW [(Value.int .u64 0)] [(0, 1, x1)] (fun x2 => boxW x2 (fun x3 => K x3)))

/-- epoch_New -/
def S_epoch_New (a0 : Value) (K : KV) : World → Prop :=
  minW a0 [(Value.int .i64 4)] (fun x1 => maxW (Value.int .i64 1) [x1] (fun x2 => makeSliceW 8 [(Value.int .u64 0)] x2 x2 (fun x3 => buildW [(Value.slice none 0 0)] [(0, 1, x3)] (fun x4 => boxW x4 (fun x5 => K x5)))))

/-- mem_Mem_do -/
def S_mem_Mem_do (a0 a1 : Value) (K : KV) : World → Prop :=
  boxW a1 (fun x1 => newW #[(Value.int .u64 0), (Value.int .u64 0), (Value.bool false), (Value.int .i64 0), (Value.bool false), (Value.int .i64 0)] (fun x2 => newW #[(Value.int .u64 0), (Value.int .u64 0), (Value.bool false), (Value.int .i64 0), (Value.bool false), (Value.int .i64 0)] (fun x3 => addW 0 x1 (fun x4 => load1W x4 (fun x5 => binIntW .eql x5 (Value.int .i64 1) (fun x6 => joinW0 (loadNW 6 x3 (fun x7 => storeW 6 x2 x7 (fun _ => loadNW 6 x2 (fun x9 => K x9)))) (fun j1 => condP x6 (drewW (nilW a0 (fun x10 => addW 5 x10 (fun x11 => load1W x11 (fun x12 => addW 1 x1 (fun x13 => load1W x13 (fun x14 => CP Tryz.prog Fn.heap_Heap_Load [x12, x14] (fun x15 => andP (andP (trueP) (andP (trueP) (trueP))) (extractW 0 x15 (fun x16 => extractW 1 x15 (fun x17 => addW 0 x3 (fun x18 => storeW 1 x18 x16 (fun _ => andP (trueP) (addW 5 x3 (fun x20 => storeW 1 x20 x17 (fun _ => andP (trueP) (j1))))))))))))))))) (binIntW .eql x5 (Value.int .i64 2) (fun x22 => joinW0 (j1) (fun j2 => condP x22 (drewW (nilW a0 (fun x23 => addW 5 x23 (fun x24 => load1W x24 (fun x25 => addW 1 x1 (fun x26 => load1W x26 (fun x27 => addW 3 x1 (fun x28 => load1W x28 (fun x29 => CP Tryz.prog Fn.heap_Heap_Store [x25, x27, x29] (fun x30 => andP (andP (trueP) (andP (trueP) (andP (trueP) (trueP)))) (addW 5 x3 (fun x31 => storeW 1 x31 x30 (fun _ => andP (trueP) (j2)))))))))))))) (binIntW .eql x5 (Value.int .i64 3) (fun x33 => joinW0 (j2) (fun j3 => condP x33 (drewW (nilW a0 (fun x34 => addW 6 x34 (fun x35 => load1W x35 (fun x36 => addW 1 x1 (fun x37 => load1W x37 (fun x38 => CP Tryz.prog Fn.stripe_Table_Load [x36, x38] (fun x39 => andP (andP (trueP) (andP (trueP) (trueP))) (extractW 0 x39 (fun x40 => extractW 1 x39 (fun x41 => addW 1 x3 (fun x42 => storeW 3 x42 x40 (fun _ => andP (trueP) (addW 5 x3 (fun x44 => storeW 1 x44 x41 (fun _ => andP (trueP) (j3))))))))))))))))) (binIntW .eql x5 (Value.int .i64 4) (fun x46 => joinW0 (j3) (fun j4 => condP x46 (drewW (nilW a0 (fun x47 => addW 6 x47 (fun x48 => load1W x48 (fun x49 => addW 1 x1 (fun x50 => load1W x50 (fun x51 => addW 4 x1 (fun x52 => loadNW 3 x52 (fun x53 => addW 7 x1 (fun x54 => loadNW 3 x54 (fun x55 => CP Tryz.prog Fn.stripe_Table_Cas [x49, x51, x53, x55] (fun x56 => andP (andP (trueP) (andP (trueP) (andP (trueP) (andP (trueP) (trueP))))) (extractW 0 x56 (fun x57 => extractW 1 x56 (fun x58 => addW 4 x3 (fun x59 => storeW 1 x59 x57 (fun _ => andP (trueP) (addW 5 x3 (fun x61 => storeW 1 x61 x58 (fun _ => andP (trueP) (j4))))))))))))))))))))) (binIntW .eql x5 (Value.int .i64 5) (fun x63 => joinW0 (j4) (fun j5 => condP x63 (drewW (nilW a0 (fun x64 => addW 6 x64 (fun x65 => load1W x65 (fun x66 => addW 1 x1 (fun x67 => load1W x67 (fun x68 => addW 7 x1 (fun x69 => loadNW 3 x69 (fun x70 => CP Tryz.prog Fn.stripe_Table_Store [x66, x68, x70] (fun x71 => andP (andP (trueP) (andP (trueP) (andP (trueP) (trueP)))) (addW 5 x3 (fun x72 => storeW 1 x72 x71 (fun _ => andP (trueP) (j5)))))))))))))) (binIntW .eql x5 (Value.int .i64 6) (fun x74 => joinW0 (j5) (fun j6 => condP x74 (nilW a0 (fun x75 => addW 7 x75 (fun x76 => load1W x76 (fun x77 => CP Tryz.prog Fn.clock_Clock_Load [x77] (fun x78 => addW 0 x3 (fun x79 => storeW 1 x79 x78 (fun _ => j6))))))) (binIntW .eql x5 (Value.int .i64 7) (fun x81 => joinW0 (j6) (fun j7 => condP x81 (drewW (nilW a0 (fun x82 => addW 7 x82 (fun x83 => load1W x83 (fun x84 => addW 2 x1 (fun x85 => load1W x85 (fun x86 => addW 3 x1 (fun x87 => load1W x87 (fun x88 => CP Tryz.prog Fn.clock_Clock_Cas [x84, x86, x88] (fun x89 => andP (andP (trueP) (andP (trueP) (andP (trueP) (trueP)))) (extractW 0 x89 (fun x90 => extractW 1 x89 (fun x91 => addW 4 x3 (fun x92 => storeW 1 x92 x90 (fun _ => andP (trueP) (addW 5 x3 (fun x94 => storeW 1 x94 x91 (fun _ => andP (trueP) (j7))))))))))))))))))) (binIntW .eql x5 (Value.int .i64 8) (fun x96 => joinW0 (j7) (fun j8 => condP x96 (drewW (nilW a0 (fun x97 => addW 8 x97 (fun x98 => load1W x98 (fun x99 => addW 1 x1 (fun x100 => load1W x100 (fun x101 => CP Tryz.prog Fn.epoch_Slots_Load [x99, x101] (fun x102 => andP (andP (trueP) (andP (trueP) (trueP))) (extractW 0 x102 (fun x103 => extractW 1 x102 (fun x104 => addW 0 x3 (fun x105 => storeW 1 x105 x103 (fun _ => andP (trueP) (addW 5 x3 (fun x107 => storeW 1 x107 x104 (fun _ => andP (trueP) (j8))))))))))))))))) (binIntW .eql x5 (Value.int .i64 9) (fun x109 => joinW0 (j8) (fun j9 => condP x109 (drewW (nilW a0 (fun x110 => addW 8 x110 (fun x111 => load1W x111 (fun x112 => addW 1 x1 (fun x113 => load1W x113 (fun x114 => addW 3 x1 (fun x115 => load1W x115 (fun x116 => CP Tryz.prog Fn.epoch_Slots_Store [x112, x114, x116] (fun x117 => andP (andP (trueP) (andP (trueP) (andP (trueP) (trueP)))) (addW 5 x3 (fun x118 => storeW 1 x118 x117 (fun _ => andP (trueP) (j9)))))))))))))) (addW 5 x3 (fun x120 => storeW 1 x120 (Value.int .i64 1) (fun _ => j9))))))))))))))))))))))))))))))))))

/-- limbo_New -/
def S_limbo_New (K : KV) : World → Prop :=
  buildW [(Value.slice none 0 0)] [] (fun x1 => boxW x1 (fun x2 => K x2))

/-- slices_Clone_api_Ins_api_Ins -/
def S_slices_Clone_api_Ins_api_Ins (a0 : Value) (K : KV) : World → Prop :=
  eqNilSliceW .eql a0 (Value.slice none 0 0) (fun x1 => condP x1 (K (Value.slice none 0 0)) (buildSliceW [(Value.int .i64 0), (Value.int .i64 0), (Value.int .i64 0), (Value.int .i64 0), (Value.int .u64 0)] 0 [] (fun x2 => appendW 5 40 x2 a0 (fun x3 => K x3))))

/-- thread_Thread_following -/
def S_thread_Thread_following (a0 : Value) (K : KV) : World → Prop :=
  nilW a0 (fun x1 => addW 10 x1 (fun x2 => load1W x2 (fun x3 => binIntW .add x3 (Value.int .i64 1) (fun x4 => nilW a0 (fun x5 => addW 10 x5 (fun x6 => storeW 1 x6 x4 (fun _ => buildW [(Value.bool false), (Value.slice none 0 0), (Value.int .i64 0), (Value.int .i64 0)] [] (fun x8 => nilW a0 (fun x9 => addW 12 x9 (fun x10 => storeW 4 x10 x8 (fun _ => CP Tryz.prog Fn.thread_Thread_again [a0] (fun x12 => K (Value.tuple #[])))))))))))))

/-- heap_Heap_All -/
def S_heap_Heap_All (a0 : Value) (K : KV) : World → Prop :=
  nilW a0 (fun x1 => addW 0 x1 (fun x2 => load1W x2 (fun x3 => CP Tryz.prog Fn.slices_Clone_uint64_uint64 [x3] (fun x4 => K x4))))

/-- attempt_Attempt_Next -/
def S_attempt_Attempt_Next (a0 : Value) (K : KV) : World → Prop :=
  newW #[(Value.int .i64 0), (Value.int .i64 0), (Value.int .u64 0), (Value.int .u64 0), (Value.int .u64 0), (Value.bool false), (Value.int .i64 0), (Value.int .u64 0), (Value.bool false), (Value.int .i64 0)] (fun x1 => nilW a0 (fun x2 => addW 14 x2 (fun x3 => load1W x3 (fun x4 => binIntW .eql x4 (Value.int .i64 0) (fun x5 => condP x5 (nilW a0 (fun x6 => addW 0 x6 (fun x7 => load1W x7 (fun x8 => buildW [(Value.int .i64 0), (Value.int .i64 0), (Value.int .u64 0), (Value.int .u64 0), (Value.int .u64 0), (Value.bool false), (Value.int .i64 0), (Value.int .u64 0), (Value.bool false), (Value.int .i64 0)] [(0, 1, (Value.int .i64 9)), (1, 1, x8), (3, 1, (Value.int .u64 1))] (fun x9 => storeW 10 x1 x9 (fun _ => loadNW 10 x1 (fun x11 => K (Value.tuple #[x11, (Value.bool true)])))))))) (binIntW .eql x4 (Value.int .i64 1) (fun x12 => condP x12 (buildW [(Value.int .i64 0), (Value.int .i64 0), (Value.int .u64 0), (Value.int .u64 0), (Value.int .u64 0), (Value.bool false), (Value.int .i64 0), (Value.int .u64 0), (Value.bool false), (Value.int .i64 0)] [(0, 1, (Value.int .i64 6))] (fun x13 => storeW 10 x1 x13 (fun _ => loadNW 10 x1 (fun x15 => K (Value.tuple #[x15, (Value.bool true)]))))) (binIntW .eql x4 (Value.int .i64 2) (fun x16 => condP x16 (drewW (nilW a0 (fun x17 => addW 0 x17 (fun x18 => load1W x18 (fun x19 => nilW a0 (fun x20 => addW 21 x20 (fun x21 => load1W x21 (fun x22 => binIntW .add x22 (Value.int .u64 1) (fun x23 => buildW [(Value.int .i64 0), (Value.int .i64 0), (Value.int .u64 0), (Value.int .u64 0), (Value.int .u64 0), (Value.bool false), (Value.int .i64 0), (Value.int .u64 0), (Value.bool false), (Value.int .i64 0)] [(0, 1, (Value.int .i64 9)), (1, 1, x19), (3, 1, x23)] (fun x24 => storeW 10 x1 x24 (fun _ => andP (andP (trueP) (andP (trueP) (trueP))) (loadNW 10 x1 (fun x26 => K (Value.tuple #[x26, (Value.bool true)])))))))))))))) (binIntW .eql x4 (Value.int .i64 7) (fun x27 => condP x27 (nilW a0 (fun x28 => addW 0 x28 (fun x29 => load1W x29 (fun x30 => buildW [(Value.int .i64 0), (Value.int .i64 0), (Value.int .u64 0), (Value.int .u64 0), (Value.int .u64 0), (Value.bool false), (Value.int .i64 0), (Value.int .u64 0), (Value.bool false), (Value.int .i64 0)] [(0, 1, (Value.int .i64 9)), (1, 1, x30)] (fun x31 => storeW 10 x1 x31 (fun _ => loadNW 10 x1 (fun x33 => K (Value.tuple #[x33, (Value.bool true)])))))))) (binIntW .eql x4 (Value.int .i64 8) (fun x34 => condP x34 (buildW [(Value.int .i64 0), (Value.int .i64 0), (Value.int .u64 0), (Value.int .u64 0), (Value.int .u64 0), (Value.bool false), (Value.int .i64 0), (Value.int .u64 0), (Value.bool false), (Value.int .i64 0)] [] (fun x35 => storeW 10 x1 x35 (fun _ => loadNW 10 x1 (fun x37 => K (Value.tuple #[x37, (Value.bool false)]))))) (nilW a0 (fun x38 => addW 15 x38 (fun x39 => load1W x39 (fun x40 => invW Tryz.prog x40 "Next" [] (fun x41 => extractW 0 x41 (fun x42 => extractW 1 x41 (fun x43 => storeW 10 x1 x42 (fun _ => loadNW 10 x1 (fun x45 => K (Value.tuple #[x45, x43])))))))))))))))))))))))

/-- thread_Thread_again -/
def S_thread_Thread_again (a0 : Value) (K : KV) : World → Prop :=
  nilW a0 (fun x1 => addW 17 x1 (fun x2 => storeW 1 x2 (Value.int .i64 0) (fun _ => nilW a0 (fun x4 => addW 18 x4 (fun x5 => storeW 1 x5 (Value.bool false) (fun _ => drewW (nilW a0 (fun x7 => addW 10 x7 (fun x8 => load1W x8 (fun x9 => nilW a0 (fun x10 => addW 9 x10 (fun x11 => load1W x11 (fun x12 => lenW x12 (fun x13 => binIntW .eql x9 x13 (fun x14 => condP x14 (nilW a0 (fun x15 => addW 11 x15 (fun x16 => storeW 1 x16 (Value.int .i64 6) (fun _ => nilW a0 (fun x18 => addW 16 x18 (fun x19 => storeW 1 x19 (Value.pointer none) (fun _ => K (Value.tuple #[])))))))) (nilW a0 (fun x21 => addW 12 x21 (fun x22 => addW 0 x22 (fun x23 => load1W x23 (fun x24 => joinW0 (nilW a0 (fun x25 => addW 11 x25 (fun x26 => storeW 1 x26 (Value.int .i64 1) (fun _ => K (Value.tuple #[]))))) (fun j1 => condP x24 (nilW a0 (fun x28 => addW 12 x28 (fun x29 => addW 1 x29 (fun x30 => load1W x30 (fun x31 => lenW x31 (fun x32 => loopW2 (Value.slice none 0 0) (Value.int .i64 0) (fun J1 x33 x34 => binIntW .lss x34 x32 (fun x35 => condP x35 (idxW 2 x31 x34 (fun x36 => loadNW 2 x36 (fun x37 => newW #[(Value.int .i64 0), (Value.int .u64 0)] (fun x38 => storeW 2 x38 x37 (fun _ => addW 0 x38 (fun x40 => load1W x40 (fun x41 => buildSliceW [(Value.int .i64 0)] 1 [(0, 1, x41)] (fun x42 => appendW 1 8 x33 x42 (fun x43 => binIntW .add x34 (Value.int .i64 1) (fun x44 => J1 x43 x44)))))))))) (drewW (nilW a0 (fun x45 => addW 0 x45 (fun x46 => load1W x46 (fun x47 => nilW a0 (fun x48 => addW 1 x48 (fun x49 => loadNW 8 x49 (fun x50 => CP Tryz.prog Fn.attempt_Sweep [x47, x50, x33] (fun x51 => andP (andP (trueP) (andP (trueP) (trueP))) (nilW a0 (fun x52 => addW 16 x52 (fun x53 => storeW 1 x53 x51 (fun _ => andP (trueP) (j1)))))))))))))))))))))) (drewW (nilW a0 (fun x55 => addW 0 x55 (fun x56 => load1W x56 (fun x57 => nilW a0 (fun x58 => addW 1 x58 (fun x59 => loadNW 8 x59 (fun x60 => nilW a0 (fun x61 => addW 9 x61 (fun x62 => load1W x62 (fun x63 => nilW a0 (fun x64 => addW 10 x64 (fun x65 => load1W x65 (fun x66 => idxW 1 x63 x66 (fun x67 => loadNW 1 x67 (fun x68 => CP Tryz.prog Fn.attempt_New [x57, x60, x68] (fun x69 => andP (andP (trueP) (andP (trueP) (andP (trueP) (andP (trueP) (andP (trueP) (trueP)))))) (nilW a0 (fun x70 => addW 16 x70 (fun x71 => storeW 1 x71 x69 (fun _ => andP (trueP) (j1)))))))))))))))))))))))))))))))))))))))))))

/-- attempt_Attempt_Begin -/
def S_attempt_Attempt_Begin (a0 : Value) (K : KV) : World → Prop :=
  drewW (nilW a0 (fun x1 => addW 20 x1 (fun x2 => load1W x2 (fun x3 => nilW a0 (fun x4 => addW 19 x4 (fun x5 => load1W x5 (fun x6 => K (Value.tuple #[x3, x6]))))))))

/-- attempt_Attempt_Tell -/
def S_attempt_Attempt_Tell (a0 a1 : Value) (K : KV) : World → Prop :=
  boxW a1 (fun x1 => nilW a0 (fun x2 => addW 14 x2 (fun x3 => load1W x3 (fun x4 => binIntW .eql x4 (Value.int .i64 8) (fun x5 => condP x5 (K (Value.tuple #[])) (addW 5 x1 (fun x6 => load1W x6 (fun x7 => binIntW .neq x7 (Value.int .i64 0) (fun x8 => condP x8 (addW 5 x1 (fun x9 => load1W x9 (fun x10 => CP Tryz.prog Fn.attempt_Attempt_out [a0, (Value.int .i64 4), x10, (Value.int .i64 (-1))] (fun x11 => nilW a0 (fun x12 => addW 14 x12 (fun x13 => storeW 1 x13 (Value.int .i64 8) (fun _ => K (Value.tuple #[])))))))) (nilW a0 (fun x15 => addW 14 x15 (fun x16 => load1W x16 (fun x17 => binIntW .eql x17 (Value.int .i64 0) (fun x18 => joinW0 (K (Value.tuple #[])) (fun j1 => condP x18 (nilW a0 (fun x19 => addW 14 x19 (fun x20 => storeW 1 x20 (Value.int .i64 1) (fun _ => j1)))) (binIntW .eql x17 (Value.int .i64 1) (fun x22 => joinW0 (j1) (fun j2 => condP x22 (drewW (addW 0 x1 (fun x23 => load1W x23 (fun x24 => addW 0 x1 (fun x25 => load1W x25 (fun x26 => nilW a0 (fun x27 => addW 19 x27 (fun x28 => storeW 1 x28 (Value.bool true) (fun _ => andP (andP (load1W x25 (fun v => eqP v x26)) (andP (load1W x23 (fun v => eqP v x24)) (trueP))) (nilW a0 (fun x30 => addW 20 x30 (fun x31 => storeW 1 x31 x24 (fun _ => andP (andP (load1W x25 (fun v => eqP v x26)) (andP (trueP) (trueP))) (nilW a0 (fun x33 => addW 21 x33 (fun x34 => storeW 1 x34 x26 (fun _ => andP (andP (trueP) (trueP)) (nilW a0 (fun x36 => addW 14 x36 (fun x37 => storeW 1 x37 (Value.int .i64 2) (fun _ => j2))))))))))))))))))))) (binIntW .eql x17 (Value.int .i64 2) (fun x39 => joinW0 (j2) (fun j3 => condP x39 (CP Tryz.prog Fn.attempt_Attempt_work [a0] (fun x40 => j3)) (binIntW .eql x17 (Value.int .i64 7) (fun x41 => joinW0 (j3) (fun j4 => condP x41 (nilW a0 (fun x42 => addW 14 x42 (fun x43 => storeW 1 x43 (Value.int .i64 8) (fun _ => j4)))) (drewW (nilW a0 (fun x45 => addW 15 x45 (fun x46 => load1W x46 (fun x47 => loadNW 6 x1 (fun x48 => invW Tryz.prog x47 "Tell" [x48] (fun x49 => andP (andP (trueP) (andP (trueP) (trueP))) (CP Tryz.prog Fn.attempt_Attempt_told [a0] (fun x50 => j4)))))))))))))))))))))))))))))))))

/-- attempt_Attempt_End -/
def S_attempt_Attempt_End (a0 : Value) (K : KV) : World → Prop :=
  nilW a0 (fun x1 => addW 14 x1 (fun x2 => load1W x2 (fun x3 => binIntW .neq x3 (Value.int .i64 8) (fun x4 => condP x4 (K (Value.int .i64 0)) (nilW a0 (fun x5 => addW 22 x5 (fun x6 => load1W x6 (fun x7 => K x7))))))))

/-- thread_Thread_ended -/
def S_thread_Thread_ended (a0 a1 a2 : Value) (K : KV) : World → Prop :=
  nilW a0 (fun x1 => addW 16 x1 (fun x2 => load1W x2 (fun x3 => drewW (nilW a0 (fun x4 => addW 19 x4 (fun x5 => load1W x5 (fun x6 => CP Tryz.prog Fn.thread_Thread_told [a0, a2] (fun x7 => andP (andP (load1W x5 (fun v => eqP v x6)) (trueP)) (buildSliceW [(Value.int .i64 0), (Value.int .i64 0), (Value.int .i64 0), (Value.bool false), (Value.int .i64 0), (Value.int .i64 0), (Value.int .u64 0), (Value.int .u64 0), (Value.int .i64 0), (Value.int .i64 0), (Value.slice none 0 0), (Value.slice none 0 0), (Value.slice none 0 0), (strV [])] 1 [(0, 14, x7)] (fun x8 => andP (andP (load1W x5 (fun v => eqP v x6)) (trueP)) (appendW 14 168 x6 x8 (fun x9 => andP (andP (trueP) (trueP)) (nilW a0 (fun x10 => addW 19 x10 (fun x11 => storeW 1 x11 x9 (fun _ => andP (trueP) (nilW a0 (fun x13 => addW 12 x13 (fun x14 => addW 2 x14 (fun x15 => load1W x15 (fun x16 => binIntW .add x16 (Value.int .i64 1) (fun x17 => nilW a0 (fun x18 => addW 12 x18 (fun x19 => addW 2 x19 (fun x20 => storeW 1 x20 x17 (fun _ => CP Tryz.prog Fn.attempt_Attempt_End [x3] (fun x22 => binIntW .eql x22 (Value.int .i64 5) (fun x23 => joinW0 (K (Value.tuple #[])) (fun j1 => condP x23 (nilW a0 (fun x24 => addW 12 x24 (fun x25 => addW 3 x25 (fun x26 => load1W x26 (fun x27 => binIntW .add x27 (Value.int .i64 1) (fun x28 => nilW a0 (fun x29 => addW 12 x29 (fun x30 => addW 3 x30 (fun x31 => storeW 1 x31 x28 (fun _ => drewW (CP Tryz.prog Fn.attempt_Attempt_By [x3] (fun x33 => andP (trueP) (binIntW .geq x33 (Value.int .i64 0) (fun x34 => gW x34 true (fun K => K x3) (fun x35 => gW x34 true (fun K => K a0) (fun x36 => gW x34 true (fun K => nilW x36 K) (fun x37 => gW x34 true (fun K => addW 1 x37 K) (fun x38 => gW x34 true (fun K => addW 0 x38 K) (fun x39 => gW x34 true (fun K => addW 3 x39 K) (fun x40 => gW x34 true (fun K => load1W x40 K) (fun x41 => gW x34 true (fun K => CP Tryz.prog Fn.attempt_Attempt_By [x35] K) (fun x42 => andP (andP (gW x34 true (fun K => load1W x40 K) (fun v => eqP v x41)) (trueP)) (gW x34 true (fun K => binIntW .lss x42 x41 K) (fun x43 => pickW x34 x43 (Value.bool false) (fun x44 => condP x44 (CP Tryz.prog Fn.attempt_Attempt_By [x3] (fun x45 => nilW a0 (fun x46 => addW 11 x46 (fun x47 => storeW 1 x47 (Value.int .i64 2) (fun _ => nilW a0 (fun x49 => addW 23 x49 (fun x50 => storeW 1 x50 x45 (fun _ => nilW a0 (fun x52 => addW 25 x52 (fun x53 => storeW 1 x53 (Value.bool false) (fun _ => K (Value.tuple #[])))))))))))) (CP Tryz.prog Fn.thread_Thread_pause [a0, a1] (fun x55 => j1))))))))))))))))))))))))))) (CP Tryz.prog Fn.attempt_Attempt_End [x3] (fun x56 => binIntW .eql x56 (Value.int .i64 3) (fun x57 => joinW0 (j1) (fun j2 => condP x57 (nilW a0 (fun x58 => addW 18 x58 (fun x59 => load1W x59 (fun x60 => condP x60 (CP Tryz.prog Fn.thread_Thread_again [a0] (fun x61 => K (Value.tuple #[]))) (nilW a0 (fun x62 => addW 11 x62 (fun x63 => storeW 1 x63 (Value.int .i64 4) (fun _ => j2)))))))) (nilW a0 (fun x65 => addW 12 x65 (fun x66 => addW 0 x66 (fun x67 => load1W x67 (fun x68 => joinW0 (j2) (fun j3 => condP x68 (CP Tryz.prog Fn.attempt_Attempt_End [x3] (fun x69 => CP Tryz.prog Fn.thread_Thread_swept [a0, x69] (fun x70 => j3))) (drewW (nilW a0 (fun x71 => addW 20 x71 (fun x72 => load1W x72 (fun x73 => CP Tryz.prog Fn.attempt_Attempt_End [x3] (fun x74 => andP (andP (load1W x72 (fun v => eqP v x73)) (trueP)) (CP Tryz.prog Fn.attempt_Attempt_Err [x3] (fun x75 => andP (andP (load1W x72 (fun v => eqP v x73)) (trueP)) (CP Tryz.prog Fn.attempt_Attempt_Slate [x3] (fun x76 => andP (andP (load1W x72 (fun v => eqP v x73)) (trueP)) (CP Tryz.prog Fn.attempt_Attempt_Stamp [x3] (fun x77 => andP (andP (load1W x72 (fun v => eqP v x73)) (trueP)) (buildW [(Value.int .i64 0), (Value.int .i64 0), (strV []), (Value.int .u64 0)] [(0, 1, x74), (1, 1, x75), (2, 1, x76), (3, 1, x77)] (fun x78 => buildSliceW [(Value.int .i64 0), (Value.int .i64 0), (strV []), (Value.int .u64 0)] 1 [(0, 4, x78)] (fun x79 => andP (andP (load1W x72 (fun v => eqP v x73)) (trueP)) (appendW 4 40 x73 x79 (fun x80 => andP (andP (trueP) (trueP)) (nilW a0 (fun x81 => addW 20 x81 (fun x82 => storeW 1 x82 x80 (fun _ => andP (trueP) (drewW (nilW a0 (fun x84 => addW 21 x84 (fun x85 => load1W x85 (fun x86 => CP Tryz.prog Fn.attempt_Attempt_Stamp [x3] (fun x87 => andP (andP (load1W x85 (fun v => eqP v x86)) (trueP)) (CP Tryz.prog Fn.attempt_Attempt_Frees [x3] (fun x88 => andP (andP (load1W x85 (fun v => eqP v x86)) (trueP)) (CP Tryz.prog Fn.limbo_Limbo_Add [x86, x87, x88] (fun x89 => andP (andP (trueP) (trueP)) (CP Tryz.prog Fn.thread_Thread_over [a0] (fun x90 => j3))))))))))))))))))))))))))))))))))))))))))))))))))))))))))))))))))))))))

/-- thread_Thread_yield -/
def S_thread_Thread_yield (a0 a1 a2 : Value) (K : KV) : World → Prop :=
  boxW a1 (fun x1 => drewW (addW 5 x1 (fun x2 => load1W x2 (fun x3 => binIntW .eql x3 (Value.int .i64 0) (fun x4 => gW x4 true (fun K => addW 0 x1 K) (fun x5 => gW x4 true (fun K => load1W x5 K) (fun x6 => gW x4 true (fun K => binIntW .neq x6 (Value.int .u64 0) K) (fun x7 => pickW x4 x7 (Value.bool false) (fun x8 => gW x8 true (fun K => K a0) (fun x9 => gW x8 true (fun K => nilW x9 K) (fun x10 => gW x8 true (fun K => addW 25 x10 K) (fun x11 => gW x8 true (fun K => load1W x11 K) (fun x12 => gW x8 true (fun K => notW x12 K) (fun x13 => gW x8 true (fun K => K x13) (fun x14 => gW x14 false (fun K => addW 0 x1 K) (fun x15 => gW x14 false (fun K => load1W x15 K) (fun x16 => gW x14 false (fun K => K a0) (fun x17 => gW x14 false (fun K => nilW x17 K) (fun x18 => gW x14 false (fun K => addW 24 x18 K) (fun x19 => gW x14 false (fun K => load1W x19 K) (fun x20 => gW x14 false (fun K => binIntW .eql x16 x20 K) (fun x21 => gW x8 true (fun K => pickW x14 (Value.bool true) x21 K) (fun x22 => pickW x8 x22 (Value.bool false) (fun x23 => condP x23 (drewW (addW 0 x1 (fun x24 => load1W x24 (fun x25 => nilW a0 (fun x26 => addW 25 x26 (fun x27 => storeW 1 x27 (Value.bool true) (fun _ => andP (andP (load1W x24 (fun v => eqP v x25)) (trueP)) (nilW a0 (fun x29 => addW 24 x29 (fun x30 => storeW 1 x30 x25 (fun _ => andP (andP (trueP) (trueP)) (K (Value.tuple #[]))))))))))))) (CP Tryz.prog Fn.thread_Thread_pause [a0, a2] (fun x32 => K (Value.tuple #[])))))))))))))))))))))))))))

/-- thread_Thread_looked -/
def S_thread_Thread_looked (a0 a1 : Value) (K : KV) : World → Prop :=
  nilW a0 (fun x1 => addW 22 x1 (fun x2 => load1W x2 (fun x3 => buildSliceW [(Value.int .u64 0)] 1 [(0, 1, a1)] (fun x4 => appendW 1 8 x3 x4 (fun x5 => nilW a0 (fun x6 => addW 22 x6 (fun x7 => storeW 1 x7 x5 (fun _ => CP Tryz.prog Fn.thread_Thread_look [a0] (fun x9 => K (Value.tuple #[]))))))))))

/-- attempt_Attempt_Seen -/
def S_attempt_Attempt_Seen (a0 : Value) (K : KV) : World → Prop :=
  nilW a0 (fun x1 => addW 13 x1 (fun x2 => load1W x2 (fun x3 => CP Tryz.prog Fn.reads_Reads_All [x3] (fun x4 => K x4))))

/-- attempt_Attempt_Blocking -/
def S_attempt_Attempt_Blocking (a0 : Value) (K : KV) : World → Prop :=
  nilW a0 (fun x1 => addW 14 x1 (fun x2 => load1W x2 (fun x3 => binIntW .neq x3 (Value.int .i64 8) (fun x4 => gW x4 true (fun K => K a0) (fun x5 => gW x4 true (fun K => nilW x5 K) (fun x6 => gW x4 true (fun K => addW 25 x6 K) (fun x7 => gW x4 true (fun K => load1W x7 K) (fun x8 => pickW x4 x8 (Value.bool false) (fun x9 => K x9)))))))))

/-- thread_copied -/
def S_thread_copied (a0 : Value) (K : KV) : World → Prop :=
  boxW a0 (fun x1 => newW #[(Value.int .i64 0), (Value.int .i64 0), (Value.int .i64 0), (Value.bool false), (Value.int .i64 0), (Value.int .i64 0), (Value.int .u64 0), (Value.int .u64 0), (Value.int .i64 0), (Value.int .i64 0), (Value.slice none 0 0), (Value.slice none 0 0), (Value.slice none 0 0), (strV [])] (fun x2 => drewW (addW 10 x1 (fun x3 => load1W x3 (fun x4 => addW 11 x1 (fun x5 => load1W x5 (fun x6 => addW 12 x1 (fun x7 => load1W x7 (fun x8 => CP Tryz.prog Fn.slices_Clone_api_Cell_api_Cell [x4] (fun x9 => andP (andP (load1W x7 (fun v => eqP v x8)) (andP (load1W x5 (fun v => eqP v x6)) (andP (trueP) (trueP)))) (addW 10 x1 (fun x10 => CP Tryz.prog Fn.slices_Clone_api_Cell_api_Cell [x6] (fun x11 => andP (andP (load1W x7 (fun v => eqP v x8)) (andP (trueP) (trueP))) (CP Tryz.prog Fn.slices_Clone_int_int [x8] (fun x12 => andP (andP (trueP) (trueP)) (storeW 1 x10 x9 (fun _ => andP (trueP) (addW 11 x1 (fun x14 => storeW 1 x14 x11 (fun _ => andP (trueP) (addW 12 x1 (fun x16 => storeW 1 x16 x12 (fun _ => andP (trueP) (loadNW 14 x1 (fun x18 => storeW 14 x2 x18 (fun _ => loadNW 14 x2 (fun x20 => K x20)))))))))))))))))))))))))))

/-- thread_Thread_told -/
def S_thread_Thread_told (a0 a1 : Value) (K : KV) : World → Prop :=
  newW #[(Value.int .i64 0), (Value.int .i64 0), (Value.int .i64 0), (Value.bool false), (Value.int .i64 0), (Value.int .i64 0), (Value.int .u64 0), (Value.int .u64 0), (Value.int .i64 0), (Value.int .i64 0), (Value.slice none 0 0), (Value.slice none 0 0), (Value.slice none 0 0), (strV [])] (fun x1 => nilW a0 (fun x2 => addW 16 x2 (fun x3 => load1W x3 (fun x4 => CP Tryz.prog Fn.attempt_Attempt_Begin [x4] (fun x5 => extractW 0 x5 (fun x6 => extractW 1 x5 (fun x7 => CP Tryz.prog Fn.attempt_Attempt_End [x4] (fun x8 => CP Tryz.prog Fn.attempt_Attempt_Writing [x4] (fun x9 => joinW1 (fun x10 => drewW (nilW a0 (fun x11 => addW 0 x11 (fun x12 => load1W x12 (fun x13 => nilW a0 (fun x14 => addW 10 x14 (fun x15 => load1W x15 (fun x16 => nilW a0 (fun x17 => addW 12 x17 (fun x18 => addW 2 x18 (fun x19 => load1W x19 (fun x20 => nilW a0 (fun x21 => addW 12 x21 (fun x22 => addW 0 x22 (fun x23 => load1W x23 (fun x24 => nilW a0 (fun x25 => addW 17 x25 (fun x26 => load1W x26 (fun x27 => CP Tryz.prog Fn.attempt_Attempt_Err [x4] (fun x28 => andP (andP (load1W x26 (fun v => eqP v x27)) (andP (load1W x23 (fun v => eqP v x24)) (andP (load1W x19 (fun v => eqP v x20)) (andP (load1W x15 (fun v => eqP v x16)) (andP (load1W x12 (fun v => eqP v x13)) (trueP)))))) (CP Tryz.prog Fn.attempt_Attempt_Stamp [x4] (fun x29 => andP (andP (load1W x26 (fun v => eqP v x27)) (andP (load1W x23 (fun v => eqP v x24)) (andP (load1W x19 (fun v => eqP v x20)) (andP (load1W x15 (fun v => eqP v x16)) (andP (load1W x12 (fun v => eqP v x13)) (trueP)))))) (CP Tryz.prog Fn.attempt_Attempt_Reads [x4] (fun x30 => andP (andP (load1W x26 (fun v => eqP v x27)) (andP (load1W x23 (fun v => eqP v x24)) (andP (load1W x19 (fun v => eqP v x20)) (andP (load1W x15 (fun v => eqP v x16)) (andP (load1W x12 (fun v => eqP v x13)) (trueP)))))) (CP Tryz.prog Fn.attempt_Attempt_Cells [x4] (fun x31 => andP (andP (load1W x26 (fun v => eqP v x27)) (andP (load1W x23 (fun v => eqP v x24)) (andP (load1W x19 (fun v => eqP v x20)) (andP (load1W x15 (fun v => eqP v x16)) (andP (load1W x12 (fun v => eqP v x13)) (trueP)))))) (CP Tryz.prog Fn.attempt_Attempt_Frees [x4] (fun x32 => andP (andP (load1W x26 (fun v => eqP v x27)) (andP (load1W x23 (fun v => eqP v x24)) (andP (load1W x19 (fun v => eqP v x20)) (andP (load1W x15 (fun v => eqP v x16)) (andP (load1W x12 (fun v => eqP v x13)) (trueP)))))) (CP Tryz.prog Fn.attempt_Attempt_Slate [x4] (fun x33 => andP (andP (load1W x26 (fun v => eqP v x27)) (andP (load1W x23 (fun v => eqP v x24)) (andP (load1W x19 (fun v => eqP v x20)) (andP (load1W x15 (fun v => eqP v x16)) (andP (load1W x12 (fun v => eqP v x13)) (trueP)))))) (buildW [(Value.int .i64 0), (Value.int .i64 0), (Value.int .i64 0), (Value.bool false), (Value.int .i64 0), (Value.int .i64 0), (Value.int .u64 0), (Value.int .u64 0), (Value.int .i64 0), (Value.int .i64 0), (Value.slice none 0 0), (Value.slice none 0 0), (Value.slice none 0 0), (strV [])] [(0, 1, x13), (1, 1, x16), (2, 1, x20), (3, 1, x24), (4, 1, x10), (5, 1, x28), (6, 1, x6), (7, 1, x29), (8, 1, x27), (9, 1, a1), (10, 1, x30), (11, 1, x31), (12, 1, x32), (13, 1, x33)] (fun x34 => storeW 14 x1 x34 (fun _ => andP (andP (trueP) (andP (trueP) (andP (trueP) (andP (trueP) (andP (trueP) (trueP)))))) (loadNW 14 x1 (fun x36 => K x36))))))))))))))))))))))))))))))))))) (fun j1 => condP x9 (j1 (Value.int .i64 2)) (j1 x8)))))))))))

/-- slices_Clone_api_Result_api_Result -/
def S_slices_Clone_api_Result_api_Result (a0 : Value) (K : KV) : World → Prop :=
  eqNilSliceW .eql a0 (Value.slice none 0 0) (fun x1 => condP x1 (K (Value.slice none 0 0)) (buildSliceW [(Value.int .i64 0), (Value.int .i64 0), (strV []), (Value.int .u64 0)] 0 [] (fun x2 => appendW 4 40 x2 a0 (fun x3 => K x3))))

/-- clock_Clock_Load -/
def S_clock_Clock_Load (a0 : Value) (K : KV) : World → Prop :=
  nilW a0 (fun x1 => addW 0 x1 (fun x2 => load1W x2 (fun x3 => K x3)))

/-- stripe_near -/
def S_stripe_near (a0 a1 : Value) (K : KV) : World → Prop :=
  minW a0 [a1] (fun x1 => maxW (Value.int .i64 1) [x1] (fun x2 => K x2))

/-- heap_Heap_Load -/
def S_heap_Heap_Load (a0 a1 : Value) (K : KV) : World → Prop :=
  CP Tryz.prog Fn.heap_Heap_is [a0, a1] (fun x1 => notW x1 (fun x2 => condP x2 (K (Value.tuple #[(Value.int .u64 0), (Value.int .i64 2)])) (nilW a0 (fun x3 => addW 0 x3 (fun x4 => load1W x4 (fun x5 => idxW 1 x5 a1 (fun x6 => load1W x6 (fun x7 => K (Value.tuple #[x7, (Value.int .i64 0)])))))))))

/-- heap_Heap_Store -/
def S_heap_Heap_Store (a0 a1 a2 : Value) (K : KV) : World → Prop :=
  CP Tryz.prog Fn.heap_Heap_is [a0, a1] (fun x1 => notW x1 (fun x2 => condP x2 (K (Value.int .i64 2)) (nilW a0 (fun x3 => addW 0 x3 (fun x4 => load1W x4 (fun x5 => idxW 1 x5 a1 (fun x6 => storeW 1 x6 a2 (fun _ => K (Value.int .i64 0)))))))))

/-- stripe_Table_Load -/
def S_stripe_Table_Load (a0 a1 : Value) (K : KV) : World → Prop :=
  newW #[(Value.int .u64 0), (Value.bool false), (Value.int .i64 0)] (fun x1 => CP Tryz.prog Fn.stripe_Table_is [a0, a1] (fun x2 => notW x2 (fun x3 => condP x3 (buildW [(Value.int .u64 0), (Value.bool false), (Value.int .i64 0)] [] (fun x4 => storeW 3 x1 x4 (fun _ => loadNW 3 x1 (fun x6 => K (Value.tuple #[x6, (Value.int .i64 2)]))))) (nilW a0 (fun x7 => addW 0 x7 (fun x8 => load1W x8 (fun x9 => idxW 3 x9 a1 (fun x10 => loadNW 3 x10 (fun x11 => storeW 3 x1 x11 (fun _ => loadNW 3 x1 (fun x13 => K (Value.tuple #[x13, (Value.int .i64 0)]))))))))))))

/-- stripe_Table_Cas -/
def S_stripe_Table_Cas (a0 a1 a2 a3 : Value) (K : KV) : World → Prop :=
  boxW a2 (fun x1 => boxW a3 (fun x2 => loadNW 3 x2 (fun x3 => CP Tryz.prog Fn.stripe_Table_may [a0, a1, x3] (fun x4 => binIntW .neq x4 (Value.int .i64 0) (fun x5 => condP x5 (K (Value.tuple #[(Value.bool false), x4])) (drewW (nilW a0 (fun x6 => addW 0 x6 (fun x7 => load1W x7 (fun x8 => idxW 3 x8 a1 (fun x9 => loadNW 3 x9 (fun x10 => loadNW 3 x1 (fun x11 => eqAggW [.i .u64, .b, .i .i64] .neq x10 x11 (fun x12 => condP x12 (K (Value.tuple #[(Value.bool false), (Value.int .i64 0)])) (drewW (nilW a0 (fun x13 => addW 0 x13 (fun x14 => load1W x14 (fun x15 => loadNW 3 x2 (fun x16 => idxW 3 x15 a1 (fun x17 => storeW 3 x17 x16 (fun _ => andP (andP (trueP) (andP (trueP) (trueP))) (K (Value.tuple #[(Value.bool true), (Value.int .i64 0)]))))))))))))))))))))))))

/-- stripe_Table_Store -/
def S_stripe_Table_Store (a0 a1 a2 : Value) (K : KV) : World → Prop :=
  boxW a2 (fun x1 => loadNW 3 x1 (fun x2 => CP Tryz.prog Fn.stripe_Table_may [a0, a1, x2] (fun x3 => binIntW .eql x3 (Value.int .i64 0) (fun x4 => joinW0 (K x3) (fun j1 => condP x4 (drewW (nilW a0 (fun x5 => addW 0 x5 (fun x6 => load1W x6 (fun x7 => loadNW 3 x1 (fun x8 => idxW 3 x7 a1 (fun x9 => storeW 3 x9 x8 (fun _ => andP (andP (trueP) (andP (trueP) (trueP))) (j1))))))))) (j1))))))

/-- clock_Clock_Cas -/
def S_clock_Clock_Cas (a0 a1 a2 : Value) (K : KV) : World → Prop :=
  binIntW .leq a2 a1 (fun x1 => condP x1 (K (Value.tuple #[(Value.bool false), (Value.int .i64 1)])) (binIntW .geq a2 (Value.int .u64 4611686018427387904) (fun x2 => condP x2 (K (Value.tuple #[(Value.bool false), (Value.int .i64 7)])) (nilW a0 (fun x3 => addW 0 x3 (fun x4 => load1W x4 (fun x5 => binIntW .neq x5 a1 (fun x6 => condP x6 (K (Value.tuple #[(Value.bool false), (Value.int .i64 0)])) (nilW a0 (fun x7 => addW 0 x7 (fun x8 => storeW 1 x8 a2 (fun _ => K (Value.tuple #[(Value.bool true), (Value.int .i64 0)])))))))))))))

/-- epoch_Slots_Load -/
def S_epoch_Slots_Load (a0 a1 : Value) (K : KV) : World → Prop :=
  CP Tryz.prog Fn.epoch_Slots_is [a0, a1] (fun x1 => notW x1 (fun x2 => condP x2 (K (Value.tuple #[(Value.int .u64 0), (Value.int .i64 2)])) (nilW a0 (fun x3 => addW 0 x3 (fun x4 => load1W x4 (fun x5 => idxW 1 x5 a1 (fun x6 => load1W x6 (fun x7 => K (Value.tuple #[x7, (Value.int .i64 0)])))))))))

/-- epoch_Slots_Store -/
def S_epoch_Slots_Store (a0 a1 a2 : Value) (K : KV) : World → Prop :=
  CP Tryz.prog Fn.epoch_Slots_is [a0, a1] (fun x1 => notW x1 (fun x2 => condP x2 (K (Value.int .i64 2)) (nilW a0 (fun x3 => addW 0 x3 (fun x4 => load1W x4 (fun x5 => idxW 1 x5 a1 (fun x6 => storeW 1 x6 a2 (fun _ => K (Value.int .i64 0)))))))))

/-- slices_Clone_uint64_uint64 -/
def S_slices_Clone_uint64_uint64 (a0 : Value) (K : KV) : World → Prop :=
  eqNilSliceW .eql a0 (Value.slice none 0 0) (fun x1 => condP x1 (K (Value.slice none 0 0)) (buildSliceW [(Value.int .u64 0)] 0 [] (fun x2 => appendW 1 8 x2 a0 (fun x3 => K x3))))

/-- attempt_New -/
def S_attempt_New (a0 a1 a2 : Value) (K : KV) : World → Prop :=
  boxW a1 (fun x1 => boxW a2 (fun x2 => loadNW 8 x1 (fun x3 => CP Tryz.prog Fn.attempt_fresh [a0, x3] (fun x4 => drewW (loadNW 1 x2 (fun x5 => nilW x4 (fun x6 => addW 12 x6 (fun x7 => load1W x7 (fun x8 => nilW x4 (fun x9 => addW 1 x9 (fun x10 => addW 7 x10 (fun x11 => load1W x11 (fun x12 => CP Tryz.prog Fn.interp_New [x5, x8, x12] (fun x13 => andP (andP (trueP) (andP (trueP) (andP (trueP) (trueP)))) (nilW x4 (fun x14 => addW 9 x14 (fun x15 => storeW 1 x15 x13 (fun _ => andP (trueP) (K x4)))))))))))))))))))

/-- attempt_Attempt_out -/
def S_attempt_Attempt_out (a0 a1 a2 a3 : Value) (K : KV) : World → Prop :=
  nilW a0 (fun x1 => addW 22 x1 (fun x2 => storeW 1 x2 a1 (fun _ => nilW a0 (fun x4 => addW 24 x4 (fun x5 => storeW 1 x5 a2 (fun _ => nilW a0 (fun x7 => addW 23 x7 (fun x8 => storeW 1 x8 a3 (fun _ => nilW a0 (fun x10 => addW 14 x10 (fun x11 => storeW 1 x11 (Value.int .i64 7) (fun _ => K (Value.tuple #[])))))))))))))

/-- attempt_Attempt_work -/
def S_attempt_Attempt_work (a0 : Value) (K : KV) : World → Prop :=
  CP Tryz.prog Fn.attempt_Attempt_do [a0] (fun x1 => extractW 0 x1 (fun x2 => extractW 1 x1 (fun x3 => binIntW .eql x2 (Value.int .i64 1) (fun x4 => joinW0 (K (Value.tuple #[])) (fun j1 => condP x4 (nilW a0 (fun x5 => addW 12 x5 (fun x6 => load1W x6 (fun x7 => CP Tryz.prog Fn.view_View_Need [x7] (fun x8 => CP Tryz.prog Fn.attempt_Attempt_ask [a0, x8] (fun x9 => j1)))))) (binIntW .eql x2 (Value.int .i64 3) (fun x10 => joinW0 (j1) (fun j2 => condP x10 (nilW a0 (fun x11 => addW 25 x11 (fun x12 => storeW 1 x12 (Value.bool true) (fun _ => CP Tryz.prog Fn.attempt_Attempt_later [a0, (Value.int .i64 5)] (fun x14 => j2))))) (binIntW .eql x2 (Value.int .i64 4) (fun x15 => joinW0 (j2) (fun j3 => condP x15 (CP Tryz.prog Fn.attempt_Attempt_out [a0, (Value.int .i64 4), x3, (Value.int .i64 (-1))] (fun x16 => j3)) (nilW a0 (fun x17 => addW 12 x17 (fun x18 => load1W x18 (fun x19 => CP Tryz.prog Fn.view_View_Cells [x19] (fun x20 => lenW x20 (fun x21 => binIntW .eql x21 (Value.int .i64 0) (fun x22 => condP x22 (CP Tryz.prog Fn.attempt_Attempt_out [a0, (Value.int .i64 2), (Value.int .i64 0), (Value.int .i64 (-1))] (fun x23 => K (Value.tuple #[]))) (drewW (nilW a0 (fun x24 => addW 0 x24 (fun x25 => load1W x25 (fun x26 => nilW a0 (fun x27 => addW 1 x27 (fun x28 => addW 5 x28 (fun x29 => load1W x29 (fun x30 => nilW a0 (fun x31 => addW 21 x31 (fun x32 => load1W x32 (fun x33 => nilW a0 (fun x34 => addW 13 x34 (fun x35 => load1W x35 (fun x36 => nilW a0 (fun x37 => addW 1 x37 (fun x38 => addW 0 x38 (fun x39 => addW 1 x39 (fun x40 => load1W x40 (fun x41 => nilW a0 (fun x42 => addW 1 x42 (fun x43 => addW 0 x43 (fun x44 => addW 2 x44 (fun x45 => load1W x45 (fun x46 => CP Tryz.prog Fn.reads_Reads_All [x36] (fun x47 => andP (andP (load1W x45 (fun v => eqP v x46)) (andP (load1W x40 (fun v => eqP v x41)) (andP (trueP) (andP (load1W x32 (fun v => eqP v x33)) (andP (load1W x29 (fun v => eqP v x30)) (andP (load1W x25 (fun v => eqP v x26)) (trueP))))))) (CP Tryz.prog Fn.commit_New [x26, x30, x33, x47, x20, x41, x46] (fun x48 => andP (andP (trueP) (andP (trueP) (andP (trueP) (andP (trueP) (andP (trueP) (trueP)))))) (nilW a0 (fun x49 => addW 18 x49 (fun x50 => storeW 1 x50 x48 (fun _ => andP (trueP) (nilW a0 (fun x52 => addW 18 x52 (fun x53 => load1W x53 (fun x54 => ifaceW 217 x54 (fun x55 => CP Tryz.prog Fn.attempt_Attempt_enter [a0, (Value.int .i64 6), x55] (fun x56 => j3))))))))))))))))))))))))))))))))))))))))))))))))))))))))

/-- attempt_Attempt_told -/
def S_attempt_Attempt_told (a0 : Value) (K : KV) : World → Prop :=
  nilW a0 (fun x1 => addW 15 x1 (fun x2 => load1W x2 (fun x3 => invW Tryz.prog x3 "End" [] (fun x4 => binIntW .eql x4 (Value.int .i64 0) (fun x5 => joinW0 (CP Tryz.prog Fn.attempt_Attempt_Writing [a0] (fun x6 => joinW0 (K (Value.tuple #[])) (fun j2 => condP x6 (nilW a0 (fun x7 => addW 18 x7 (fun x8 => load1W x8 (fun x9 => CP Tryz.prog Fn.commit_Commit_Stamp [x9] (fun x10 => nilW a0 (fun x11 => addW 21 x11 (fun x12 => storeW 1 x12 x10 (fun _ => j2)))))))) (j2)))) (fun j1 => condP x5 (j1) (binIntW .eql x4 (Value.int .i64 5) (fun x14 => joinW0 (j1) (fun j3 => condP x14 (nilW a0 (fun x15 => addW 15 x15 (fun x16 => load1W x16 (fun x17 => invW Tryz.prog x17 "By" [] (fun x18 => CP Tryz.prog Fn.attempt_Attempt_out [a0, (Value.int .i64 5), (Value.int .i64 0), x18] (fun x19 => j3)))))) (CP Tryz.prog Fn.attempt_Attempt_ended [a0] (fun x20 => j3)))))))))))

/-- attempt_Attempt_By -/
def S_attempt_Attempt_By (a0 : Value) (K : KV) : World → Prop :=
  nilW a0 (fun x1 => addW 14 x1 (fun x2 => load1W x2 (fun x3 => binIntW .neq x3 (Value.int .i64 8) (fun x4 => condP x4 (K (Value.int .i64 (-1))) (nilW a0 (fun x5 => addW 23 x5 (fun x6 => load1W x6 (fun x7 => K x7))))))))

/-- thread_Thread_pause -/
def S_thread_Thread_pause (a0 a1 : Value) (K : KV) : World → Prop :=
  nilW a0 (fun x1 => addW 12 x1 (fun x2 => addW 3 x2 (fun x3 => load1W x3 (fun x4 => minW x4 [(Value.int .i64 8)] (fun x5 => loopW2 (Value.int .i64 1) (Value.int .i64 0) (fun J1 x6 x7 => binIntW .lss x7 x5 (fun x8 => condP x8 (binIntW .mul (Value.int .i64 2) x6 (fun x9 => minW x9 [(Value.int .i64 8)] (fun x10 => binIntW .add x7 (Value.int .i64 1) (fun x11 => J1 x10 x11)))) (convW .i64 a1 (fun x12 => binIntW .add x6 (Value.int .i64 1) (fun x13 => binIntW .rem x12 x13 (fun x14 => nilW a0 (fun x15 => addW 26 x15 (fun x16 => storeW 1 x16 x14 (fun _ => nilW a0 (fun x18 => addW 11 x18 (fun x19 => storeW 1 x19 (Value.int .i64 3) (fun _ => nilW a0 (fun x21 => addW 26 x21 (fun x22 => load1W x22 (fun x23 => binIntW .eql x23 (Value.int .i64 0) (fun x24 => joinW0 (K (Value.tuple #[])) (fun j1 => condP x24 (CP Tryz.prog Fn.thread_Thread_again [a0] (fun x25 => j1)) (j1)))))))))))))))))))))))

/-- attempt_Attempt_Err -/
def S_attempt_Attempt_Err (a0 : Value) (K : KV) : World → Prop :=
  nilW a0 (fun x1 => addW 14 x1 (fun x2 => load1W x2 (fun x3 => binIntW .neq x3 (Value.int .i64 8) (fun x4 => condP x4 (K (Value.int .i64 0)) (nilW a0 (fun x5 => addW 24 x5 (fun x6 => load1W x6 (fun x7 => K x7))))))))

/-- attempt_Attempt_Slate -/
def S_attempt_Attempt_Slate (a0 : Value) (K : KV) : World → Prop :=
  CP Tryz.prog Fn.attempt_Attempt_committed [a0] (fun x1 => notW x1 (fun x2 => gW x2 false (fun K => K a0) (fun x3 => gW x2 false (fun K => nilW x3 K) (fun x4 => gW x2 false (fun K => addW 9 x4 K) (fun x5 => gW x2 false (fun K => load1W x5 K) (fun x6 => gW x2 false (fun K => eqNilW .eql x6 (Value.pointer none) K) (fun x7 => pickW x2 (Value.bool true) x7 (fun x8 => condP x8 (K (strV [])) (nilW a0 (fun x9 => addW 9 x9 (fun x10 => load1W x10 (fun x11 => CP Tryz.prog Fn.interp_Interp_Slate [x11] (fun x12 => CP Tryz.prog Fn.slate_Slate_Text [x12] (fun x13 => K x13))))))))))))))

/-- attempt_Attempt_Stamp -/
def S_attempt_Attempt_Stamp (a0 : Value) (K : KV) : World → Prop :=
  nilW a0 (fun x1 => addW 21 x1 (fun x2 => load1W x2 (fun x3 => K x3)))

/-- limbo_Limbo_Add -/
def S_limbo_Limbo_Add (a0 a1 a2 : Value) (K : KV) : World → Prop :=
  lenW a2 (fun x1 => loopW1 (Value.int .i64 0) (fun J1 x2 => binIntW .lss x2 x1 (fun x3 => condP x3 (idxW 1 a2 x2 (fun x4 => load1W x4 (fun x5 => nilW a0 (fun x6 => addW 0 x6 (fun x7 => load1W x7 (fun x8 => buildW [(Value.int .i64 0), (Value.int .u64 0)] [(0, 1, x5), (1, 1, a1)] (fun x9 => buildSliceW [(Value.int .i64 0), (Value.int .u64 0)] 1 [(0, 2, x9)] (fun x10 => appendW 2 16 x8 x10 (fun x11 => nilW a0 (fun x12 => addW 0 x12 (fun x13 => storeW 1 x13 x11 (fun _ => binIntW .add x2 (Value.int .i64 1) (fun x15 => J1 x15))))))))))))) (K (Value.tuple #[])))))

/-- attempt_Attempt_Frees -/
def S_attempt_Attempt_Frees (a0 : Value) (K : KV) : World → Prop :=
  CP Tryz.prog Fn.attempt_Attempt_committed [a0] (fun x1 => notW x1 (fun x2 => condP x2 (K (Value.slice none 0 0)) (nilW a0 (fun x3 => addW 9 x3 (fun x4 => load1W x4 (fun x5 => eqNilW .eql x5 (Value.pointer none) (fun x6 => condP x6 (nilW a0 (fun x7 => addW 10 x7 (fun x8 => load1W x8 (fun x9 => CP Tryz.prog Fn.slices_Clone_int_int [x9] (fun x10 => K x10))))) (nilW a0 (fun x11 => addW 12 x11 (fun x12 => load1W x12 (fun x13 => CP Tryz.prog Fn.view_View_Frees [x13] (fun x14 => K x14))))))))))))

/-- thread_Thread_over -/
def S_thread_Thread_over (a0 : Value) (K : KV) : World → Prop :=
  nilW a0 (fun x1 => addW 21 x1 (fun x2 => load1W x2 (fun x3 => CP Tryz.prog Fn.limbo_Limbo_Len [x3] (fun x4 => binIntW .eql x4 (Value.int .i64 0) (fun x5 => condP x5 (CP Tryz.prog Fn.thread_Thread_following [a0] (fun x6 => K (Value.tuple #[]))) (nilW a0 (fun x7 => addW 11 x7 (fun x8 => storeW 1 x8 (Value.int .i64 5) (fun _ => nilW a0 (fun x10 => addW 22 x10 (fun x11 => storeW 1 x11 (Value.slice none 0 0) (fun _ => CP Tryz.prog Fn.thread_Thread_look [a0] (fun x13 => K (Value.tuple #[]))))))))))))))

/-- thread_Thread_look -/
def S_thread_Thread_look (a0 : Value) (K : KV) : World → Prop :=
  drewW (nilW a0 (fun x1 => addW 22 x1 (fun x2 => load1W x2 (fun x3 => lenW x3 (fun x4 => nilW a0 (fun x5 => addW 0 x5 (fun x6 => load1W x6 (fun x7 => binIntW .eql x4 x7 (fun x8 => joinW0 (drewW (nilW a0 (fun x9 => addW 22 x9 (fun x10 => load1W x10 (fun x11 => lenW x11 (fun x12 => nilW a0 (fun x13 => addW 1 x13 (fun x14 => addW 0 x14 (fun x15 => addW 3 x15 (fun x16 => load1W x16 (fun x17 => binIntW .lss x12 x17 (fun x18 => condP x18 (K (Value.tuple #[])) (drewW (nilW a0 (fun x19 => addW 21 x19 (fun x20 => load1W x20 (fun x21 => nilW a0 (fun x22 => addW 22 x22 (fun x23 => load1W x23 (fun x24 => CP Tryz.prog Fn.limbo_Limbo_Ripe [x21, x24] (fun x25 => andP (andP (trueP) (andP (trueP) (trueP))) (lenW x25 (fun x26 => binIntW .eql x26 (Value.int .i64 0) (fun x27 => condP x27 (CP Tryz.prog Fn.thread_Thread_following [a0] (fun x28 => K (Value.tuple #[]))) (buildW [(Value.bool false), (Value.slice none 0 0), (Value.int .i64 0), (Value.int .i64 0)] [(0, 1, (Value.bool true)), (1, 1, x25)] (fun x29 => nilW a0 (fun x30 => addW 12 x30 (fun x31 => storeW 4 x31 x29 (fun _ => CP Tryz.prog Fn.thread_Thread_again [a0] (fun x33 => K (Value.tuple #[]))))))))))))))))))))))))))))))) (fun j1 => condP x8 (nilW a0 (fun x34 => addW 22 x34 (fun x35 => load1W x35 (fun x36 => buildSliceW [(Value.int .u64 0)] 1 [(0, 1, (Value.int .u64 0))] (fun x37 => appendW 1 8 x36 x37 (fun x38 => nilW a0 (fun x39 => addW 22 x39 (fun x40 => storeW 1 x40 x38 (fun _ => j1))))))))) (j1)))))))))))

/-- reads_Reads_All -/
def S_reads_Reads_All (a0 : Value) (K : KV) : World → Prop :=
  nilW a0 (fun x1 => addW 1 x1 (fun x2 => load1W x2 (fun x3 => CP Tryz.prog Fn.slices_Clone_api_Seen_api_Seen [x3] (fun x4 => K x4))))

/-- slices_Clone_api_Cell_api_Cell -/
def S_slices_Clone_api_Cell_api_Cell (a0 : Value) (K : KV) : World → Prop :=
  eqNilSliceW .eql a0 (Value.slice none 0 0) (fun x1 => condP x1 (K (Value.slice none 0 0)) (buildSliceW [(Value.int .i64 0), (Value.int .u64 0)] 0 [] (fun x2 => appendW 2 16 x2 a0 (fun x3 => K x3))))

/-- slices_Clone_int_int -/
def S_slices_Clone_int_int (a0 : Value) (K : KV) : World → Prop :=
  eqNilSliceW .eql a0 (Value.slice none 0 0) (fun x1 => condP x1 (K (Value.slice none 0 0)) (buildSliceW [(Value.int .i64 0)] 0 [] (fun x2 => appendW 1 8 x2 a0 (fun x3 => K x3))))

/-- attempt_Attempt_Writing -/
def S_attempt_Attempt_Writing (a0 : Value) (K : KV) : World → Prop :=
  nilW a0 (fun x1 => addW 14 x1 (fun x2 => load1W x2 (fun x3 => binIntW .neq x3 (Value.int .i64 8) (fun x4 => gW x4 true (fun K => K a0) (fun x5 => gW x4 true (fun K => nilW x5 K) (fun x6 => gW x4 true (fun K => addW 18 x6 K) (fun x7 => gW x4 true (fun K => load1W x7 K) (fun x8 => gW x4 true (fun K => eqNilW .neq x8 (Value.pointer none) K) (fun x9 => pickW x4 x9 (Value.bool false) (fun x10 => gW x10 true (fun K => K a0) (fun x11 => gW x10 true (fun K => nilW x11 K) (fun x12 => gW x10 true (fun K => addW 18 x12 K) (fun x13 => gW x10 true (fun K => load1W x13 K) (fun x14 => gW x10 true (fun K => CP Tryz.prog Fn.commit_Commit_Writing [x14] K) (fun x15 => gW x10 true (fun K => K x15) (fun x16 => gW x16 false (fun K => K a0) (fun x17 => gW x16 false (fun K => nilW x17 K) (fun x18 => gW x16 false (fun K => addW 18 x18 K) (fun x19 => gW x16 false (fun K => load1W x19 K) (fun x20 => gW x16 false (fun K => CP Tryz.prog Fn.commit_Commit_End [x20] K) (fun x21 => gW x16 false (fun K => binIntW .eql x21 (Value.int .i64 2) K) (fun x22 => gW x10 true (fun K => pickW x16 (Value.bool true) x22 K) (fun x23 => pickW x10 x23 (Value.bool false) (fun x24 => K x24))))))))))))))))))))))))

/-- attempt_Attempt_Reads -/
def S_attempt_Attempt_Reads (a0 : Value) (K : KV) : World → Prop :=
  nilW a0 (fun x1 => addW 12 x1 (fun x2 => load1W x2 (fun x3 => CP Tryz.prog Fn.view_View_Known [x3] (fun x4 => K x4))))

/-- attempt_Attempt_Cells -/
def S_attempt_Attempt_Cells (a0 : Value) (K : KV) : World → Prop :=
  CP Tryz.prog Fn.attempt_Attempt_committed [a0] (fun x1 => notW x1 (fun x2 => condP x2 (K (Value.slice none 0 0)) (nilW a0 (fun x3 => addW 12 x3 (fun x4 => load1W x4 (fun x5 => CP Tryz.prog Fn.view_View_Cells [x5] (fun x6 => K x6)))))))

/-- heap_Heap_is -/
def S_heap_Heap_is (a0 a1 : Value) (K : KV) : World → Prop :=
  binIntW .geq a1 (Value.int .i64 1) (fun x1 => gW x1 true (fun K => K a1) (fun x2 => gW x1 true (fun K => K a0) (fun x3 => gW x1 true (fun K => nilW x3 K) (fun x4 => gW x1 true (fun K => addW 0 x4 K) (fun x5 => gW x1 true (fun K => load1W x5 K) (fun x6 => gW x1 true (fun K => lenW x6 K) (fun x7 => gW x1 true (fun K => binIntW .lss x2 x7 K) (fun x8 => pickW x1 x8 (Value.bool false) (fun x9 => K x9)))))))))

/-- stripe_Table_is -/
def S_stripe_Table_is (a0 a1 : Value) (K : KV) : World → Prop :=
  binIntW .geq a1 (Value.int .i64 0) (fun x1 => gW x1 true (fun K => K a1) (fun x2 => gW x1 true (fun K => K a0) (fun x3 => gW x1 true (fun K => nilW x3 K) (fun x4 => gW x1 true (fun K => addW 0 x4 K) (fun x5 => gW x1 true (fun K => load1W x5 K) (fun x6 => gW x1 true (fun K => lenW x6 K) (fun x7 => gW x1 true (fun K => binIntW .lss x2 x7 K) (fun x8 => pickW x1 x8 (Value.bool false) (fun x9 => K x9)))))))))

/-- stripe_Table_may -/
def S_stripe_Table_may (a0 a1 a2 : Value) (K : KV) : World → Prop :=
  boxW a2 (fun x1 => CP Tryz.prog Fn.stripe_Table_is [a0, a1] (fun x2 => notW x2 (fun x3 => condP x3 (K (Value.int .i64 2)) (loadNW 3 x1 (fun x4 => CP Tryz.prog Fn.lock_Is [x4] (fun x5 => notW x5 (fun x6 => condP x6 (K (Value.int .i64 1)) (K (Value.int .i64 0)))))))))

/-- epoch_Slots_is -/
def S_epoch_Slots_is (a0 a1 : Value) (K : KV) : World → Prop :=
  binIntW .geq a1 (Value.int .i64 0) (fun x1 => gW x1 true (fun K => K a1) (fun x2 => gW x1 true (fun K => K a0) (fun x3 => gW x1 true (fun K => nilW x3 K) (fun x4 => gW x1 true (fun K => addW 0 x4 K) (fun x5 => gW x1 true (fun K => load1W x5 K) (fun x6 => gW x1 true (fun K => lenW x6 K) (fun x7 => gW x1 true (fun K => binIntW .lss x2 x7 K) (fun x8 => pickW x1 x8 (Value.bool false) (fun x9 => K x9)))))))))

/-- attempt_fresh -/
def S_attempt_fresh (a0 a1 : Value) (K : KV) : World → Prop :=
  boxW a1 (fun x1 => loadNW 8 x1 (fun x2 => CP Tryz.prog Fn.attempt_Held [x2] (fun x3 => storeW 8 x1 x3 (fun _ => drewW (loadNW 8 x1 (fun x5 => addW 0 x1 (fun x6 => addW 0 x6 (fun x7 => load1W x7 (fun x8 => addW 6 x1 (fun x9 => load1W x9 (fun x10 => CP Tryz.prog Fn.view_New [x8, x10] (fun x11 => andP (andP (trueP) (andP (trueP) (andP (loadNW 8 x1 (fun v => eqP v x5)) (trueP)))) (CP Tryz.prog Fn.reads_New [(Value.int .i64 16)] (fun x12 => andP (andP (loadNW 8 x1 (fun v => eqP v x5)) (trueP)) (buildW [(Value.int .i64 0), (Value.int .i64 0), (Value.int .i64 0), (Value.int .i64 0), (Value.int .i64 0), (Value.int .u64 0), (Value.int .i64 0), (Value.int .i64 0), (Value.int .i64 0), (Value.pointer none), (Value.slice none 0 0), (Value.int .i64 0), (Value.pointer none), (Value.pointer none), (Value.int .i64 0), Value.nilIface, (Value.pointer none), (Value.pointer none), (Value.pointer none), (Value.bool false), (Value.int .u64 0), (Value.int .u64 0), (Value.int .i64 0), (Value.int .i64 0), (Value.int .i64 0), (Value.bool false)] [(0, 1, a0), (1, 8, x5), (12, 1, x11), (13, 1, x12), (23, 1, (Value.int .i64 (-1)))] (fun x13 => boxW x13 (fun x14 => andP (andP (trueP) (trueP)) (K x14))))))))))))))))))

/-- interp_New -/
def S_interp_New (a0 a1 a2 : Value) (K : KV) : World → Prop :=
  boxW a0 (fun x1 => addW 0 x1 (fun x2 => load1W x2 (fun x3 => appendW 5 40 (Value.slice none 0 0) x3 (fun x4 => addW 0 x1 (fun x5 => storeW 1 x5 x4 (fun _ => loadNW 1 x1 (fun x7 => CP Tryz.prog Fn.check_Run [x7] (fun x8 => extractW 0 x8 (fun x9 => extractW 1 x8 (fun x10 => drewW (loadNW 1 x1 (fun x11 => loadNW 1 x1 (fun x12 => minW a2 [(Value.int .i64 400)] (fun x13 => maxW (Value.int .i64 0) [x13] (fun x14 => CP Tryz.prog Fn.check_Match [x12] (fun x15 => andP (andP (trueP) (andP (loadNW 1 x1 (fun v => eqP v x11)) (trueP))) (CP Tryz.prog Fn.slate_New [] (fun x16 => andP (andP (loadNW 1 x1 (fun v => eqP v x11)) (trueP)) (buildW [(Value.slice none 0 0), (Value.pointer none), (Value.slice none 0 0), (Value.int .i64 0), (Value.int .i64 0), (Value.int .i64 0), (Value.int .u64 0), (Value.int .u64 0), (Value.int .u64 0), (Value.int .u64 0), (Value.int .u64 0), (Value.int .u64 0), (Value.int .u64 0), (Value.int .u64 0), (Value.pointer none), (Value.int .i64 0), (Value.int .i64 0), (Value.int .i64 0), (Value.slice none 0 0)] [(0, 1, x11), (1, 1, a1), (2, 1, x15), (3, 1, x10), (14, 1, x16), (17, 1, x14)] (fun x17 => boxW x17 (fun x18 => andP (andP (trueP) (trueP)) (K x18))))))))))))))))))))))

/-- attempt_Attempt_do -/
def S_attempt_Attempt_do (a0 : Value) (K : KV) : World → Prop :=
  nilW a0 (fun x1 => addW 9 x1 (fun x2 => load1W x2 (fun x3 => eqNilW .neq x3 (Value.pointer none) (fun x4 => condP x4 (drewW (nilW a0 (fun x5 => addW 9 x5 (fun x6 => load1W x6 (fun x7 => nilW a0 (fun x8 => addW 9 x8 (fun x9 => load1W x9 (fun x10 => CP Tryz.prog Fn.interp_Interp_Run [x7] (fun x11 => andP (andP (load1W x9 (fun v => eqP v x10)) (andP (trueP) (trueP))) (CP Tryz.prog Fn.interp_Interp_Err [x10] (fun x12 => andP (andP (trueP) (trueP)) (K (Value.tuple #[x11, x12]))))))))))))) (loopW0 (fun J1 => drewW (nilW a0 (fun x13 => addW 11 x13 (fun x14 => load1W x14 (fun x15 => nilW a0 (fun x16 => addW 10 x16 (fun x17 => load1W x17 (fun x18 => lenW x18 (fun x19 => binIntW .lss x15 x19 (fun x20 => condP x20 (drewW (nilW a0 (fun x21 => addW 12 x21 (fun x22 => load1W x22 (fun x23 => nilW a0 (fun x24 => addW 10 x24 (fun x25 => load1W x25 (fun x26 => nilW a0 (fun x27 => addW 11 x27 (fun x28 => load1W x28 (fun x29 => idxW 1 x26 x29 (fun x30 => load1W x30 (fun x31 => CP Tryz.prog Fn.arena_Give [x23, x31] (fun x32 => andP (andP (trueP) (andP (trueP) (andP (trueP) (andP (trueP) (trueP))))) (binIntW .eql x32 (Value.int .i64 0) (fun x33 => condP x33 (nilW a0 (fun x34 => addW 11 x34 (fun x35 => load1W x35 (fun x36 => binIntW .add x36 (Value.int .i64 1) (fun x37 => nilW a0 (fun x38 => addW 11 x38 (fun x39 => storeW 1 x39 x37 (fun _ => J1)))))))) (binIntW .eql x32 (Value.int .i64 11) (fun x41 => condP x41 (K (Value.tuple #[(Value.int .i64 1), (Value.int .i64 0)])) (K (Value.tuple #[(Value.int .i64 4), x32])))))))))))))))))))) (K (Value.tuple #[(Value.int .i64 2), (Value.int .i64 0)])))))))))))))))))

/-- attempt_Attempt_ask -/
def S_attempt_Attempt_ask (a0 a1 : Value) (K : KV) : World → Prop :=
  drewW (nilW a0 (fun x1 => addW 0 x1 (fun x2 => load1W x2 (fun x3 => nilW a0 (fun x4 => addW 1 x4 (fun x5 => addW 0 x5 (fun x6 => addW 1 x6 (fun x7 => load1W x7 (fun x8 => nilW a0 (fun x9 => addW 1 x9 (fun x10 => addW 0 x10 (fun x11 => addW 2 x11 (fun x12 => load1W x12 (fun x13 => nilW a0 (fun x14 => addW 1 x14 (fun x15 => addW 5 x15 (fun x16 => load1W x16 (fun x17 => nilW a0 (fun x18 => addW 21 x18 (fun x19 => load1W x19 (fun x20 => CP Tryz.prog Fn.stripe_Of [a1, x8, x13] (fun x21 => andP (andP (load1W x19 (fun v => eqP v x20)) (andP (load1W x16 (fun v => eqP v x17)) (andP (trueP) (andP (trueP) (andP (load1W x2 (fun v => eqP v x3)) (trueP)))))) (CP Tryz.prog Fn.fetch_New [x3, a1, x21, x17, x20] (fun x22 => andP (andP (trueP) (andP (trueP) (andP (trueP) (trueP)))) (nilW a0 (fun x23 => addW 16 x23 (fun x24 => storeW 1 x24 x22 (fun _ => andP (trueP) (nilW a0 (fun x26 => addW 16 x26 (fun x27 => load1W x27 (fun x28 => ifaceW 215 x28 (fun x29 => CP Tryz.prog Fn.attempt_Attempt_enter [a0, (Value.int .i64 3), x29] (fun x30 => K (Value.tuple #[])))))))))))))))))))))))))))))))))))

/-- view_View_Need -/
def S_view_View_Need (a0 : Value) (K : KV) : World → Prop :=
  nilW a0 (fun x1 => addW 3 x1 (fun x2 => load1W x2 (fun x3 => K x3)))

/-- attempt_Attempt_later -/
def S_attempt_Attempt_later (a0 a1 : Value) (K : KV) : World → Prop :=
  drewW (nilW a0 (fun x1 => addW 0 x1 (fun x2 => load1W x2 (fun x3 => nilW a0 (fun x4 => addW 1 x4 (fun x5 => addW 5 x5 (fun x6 => load1W x6 (fun x7 => nilW a0 (fun x8 => addW 13 x8 (fun x9 => load1W x9 (fun x10 => CP Tryz.prog Fn.reads_Reads_All [x10] (fun x11 => andP (andP (trueP) (andP (load1W x6 (fun v => eqP v x7)) (andP (load1W x2 (fun v => eqP v x3)) (trueP)))) (CP Tryz.prog Fn.extend_New [x3, x7, x11] (fun x12 => andP (andP (trueP) (andP (trueP) (trueP))) (nilW a0 (fun x13 => addW 17 x13 (fun x14 => storeW 1 x14 x12 (fun _ => andP (trueP) (nilW a0 (fun x16 => addW 17 x16 (fun x17 => load1W x17 (fun x18 => ifaceW 216 x18 (fun x19 => CP Tryz.prog Fn.attempt_Attempt_enter [a0, a1, x19] (fun x20 => K (Value.tuple #[])))))))))))))))))))))))))

/-- view_View_Cells -/
def S_view_View_Cells (a0 : Value) (K : KV) : World → Prop :=
  nilW a0 (fun x1 => addW 2 x1 (fun x2 => load1W x2 (fun x3 => CP Tryz.prog Fn.levels_Levels_Cells [x3] (fun x4 => K x4))))

/-- commit_New -/
def S_commit_New (a0 a1 a2 a3 a4 a5 a6 : Value) (K : KV) : World → Prop :=
  CP Tryz.prog Fn.patience_New [a0, a1] (fun x1 => CP Tryz.prog Fn.slices_Clone_api_Seen_api_Seen [a3] (fun x2 => CP Tryz.prog Fn.slices_Clone_api_Cell_api_Cell [a4] (fun x3 => CP Tryz.prog Fn.writes_Stripes [a4, a5, a6] (fun x4 => buildW [(Value.int .i64 0), (Value.int .i64 0), (Value.int .i64 0), (Value.int .i64 0), (Value.int .i64 0), (Value.int .i64 0), (Value.int .u64 0), (Value.slice none 0 0), (Value.slice none 0 0), (Value.slice none 0 0), (Value.slice none 0 0), (Value.int .i64 0), (Value.int .i64 0), (Value.int .u64 0), (Value.bool false), (Value.int .i64 0), (Value.int .u64 0), (Value.bool false), (Value.int .i64 0), (Value.int .i64 0), (Value.int .i64 0)] [(0, 5, x1), (5, 1, a0), (6, 1, a2), (7, 1, x2), (8, 1, x3), (9, 1, x4)] (fun x5 => boxW x5 (fun x6 => CP Tryz.prog Fn.commit_Commit_more [x6] (fun x7 => K x6)))))))

/-- attempt_Attempt_enter -/
def S_attempt_Attempt_enter (a0 a1 a2 : Value) (K : KV) : World → Prop :=
  nilW a0 (fun x1 => addW 14 x1 (fun x2 => storeW 1 x2 a1 (fun _ => nilW a0 (fun x4 => addW 15 x4 (fun x5 => storeW 1 x5 a2 (fun _ => K (Value.tuple #[])))))))

/-- attempt_Attempt_ended -/
def S_attempt_Attempt_ended (a0 : Value) (K : KV) : World → Prop :=
  nilW a0 (fun x1 => addW 14 x1 (fun x2 => load1W x2 (fun x3 => binIntW .eql x3 (Value.int .i64 3) (fun x4 => joinW0 (K (Value.tuple #[])) (fun j1 => condP x4 (CP Tryz.prog Fn.attempt_Attempt_fetched [a0] (fun x5 => j1)) (binIntW .eql x3 (Value.int .i64 4) (fun x6 => joinW0 (j1) (fun j2 => condP x6 (nilW a0 (fun x7 => addW 17 x7 (fun x8 => load1W x8 (fun x9 => CP Tryz.prog Fn.extend_Extend_Stamp [x9] (fun x10 => nilW a0 (fun x11 => addW 21 x11 (fun x12 => storeW 1 x12 x10 (fun _ => nilW a0 (fun x14 => addW 12 x14 (fun x15 => load1W x15 (fun x16 => CP Tryz.prog Fn.view_View_Need [x16] (fun x17 => CP Tryz.prog Fn.attempt_Attempt_ask [a0, x17] (fun x18 => j2))))))))))))) (binIntW .eql x3 (Value.int .i64 5) (fun x19 => joinW0 (j2) (fun j3 => condP x19 (nilW a0 (fun x20 => addW 17 x20 (fun x21 => load1W x21 (fun x22 => CP Tryz.prog Fn.extend_Extend_Stamp [x22] (fun x23 => nilW a0 (fun x24 => addW 21 x24 (fun x25 => storeW 1 x25 x23 (fun _ => CP Tryz.prog Fn.attempt_Attempt_out [a0, (Value.int .i64 3), (Value.int .i64 0), (Value.int .i64 (-1))] (fun x27 => j3))))))))) (binIntW .eql x3 (Value.int .i64 6) (fun x28 => joinW0 (j3) (fun j4 => condP x28 (drewW (nilW a0 (fun x29 => addW 18 x29 (fun x30 => load1W x30 (fun x31 => nilW a0 (fun x32 => addW 18 x32 (fun x33 => load1W x33 (fun x34 => CP Tryz.prog Fn.commit_Commit_End [x31] (fun x35 => andP (andP (load1W x33 (fun v => eqP v x34)) (andP (trueP) (trueP))) (CP Tryz.prog Fn.commit_Commit_Err [x34] (fun x36 => andP (andP (trueP) (trueP)) (CP Tryz.prog Fn.attempt_Attempt_out [a0, x35, x36, (Value.int .i64 (-1))] (fun x37 => andP (trueP) (j4)))))))))))))) (j4)))))))))))))))

/-- commit_Commit_Stamp -/
def S_commit_Commit_Stamp (a0 : Value) (K : KV) : World → Prop :=
  nilW a0 (fun x1 => addW 17 x1 (fun x2 => load1W x2 (fun x3 => notW x3 (fun x4 => condP x4 (K (Value.int .u64 0)) (nilW a0 (fun x5 => addW 16 x5 (fun x6 => load1W x6 (fun x7 => binIntW .add x7 (Value.int .u64 1) (fun x8 => K x8)))))))))

/-- attempt_Attempt_committed -/
def S_attempt_Attempt_committed (a0 : Value) (K : KV) : World → Prop :=
  CP Tryz.prog Fn.attempt_Attempt_End [a0] (fun x1 => binIntW .eql x1 (Value.int .i64 2) (fun x2 => gW x2 false (fun K => K a0) (fun x3 => gW x2 false (fun K => CP Tryz.prog Fn.attempt_Attempt_Writing [x3] K) (fun x4 => pickW x2 (Value.bool true) x4 (fun x5 => K x5)))))

/-- interp_Interp_Slate -/
def S_interp_Interp_Slate (a0 : Value) (K : KV) : World → Prop :=
  nilW a0 (fun x1 => addW 14 x1 (fun x2 => load1W x2 (fun x3 => CP Tryz.prog Fn.slate_Slate_Copy [x3] (fun x4 => K x4))))

/-- slate_Slate_Text -/
def S_slate_Slate_Text (a0 : Value) (K : KV) : World → Prop :=
  nilW a0 (fun x1 => addW 0 x1 (fun x2 => load1W x2 (fun x3 => lenW x3 (fun x4 => makeSliceW 16 [(strV [])] x4 x4 (fun x5 => nilW a0 (fun x6 => addW 0 x6 (fun x7 => load1W x7 (fun x8 => lenW x8 (fun x9 => loopW1 (Value.int .i64 0) (fun J1 x10 => binIntW .lss x10 x9 (fun x11 => condP x11 (idxW 1 x8 x10 (fun x12 => load1W x12 (fun x13 => CP Tryz.prog Fn.slate_word [x13] (fun x14 => idxW 1 x5 x10 (fun x15 => storeW 1 x15 x14 (fun _ => binIntW .add x10 (Value.int .i64 1) (fun x17 => J1 x17))))))) (CP Tryz.prog Fn.strings_Join [x5, (strV [32])] (fun x18 => K x18)))))))))))))

/-- view_View_Frees -/
def S_view_View_Frees (a0 : Value) (K : KV) : World → Prop :=
  nilW a0 (fun x1 => addW 2 x1 (fun x2 => load1W x2 (fun x3 => CP Tryz.prog Fn.levels_Levels_Frees [x3] (fun x4 => K x4))))

/-- limbo_Limbo_Len -/
def S_limbo_Limbo_Len (a0 : Value) (K : KV) : World → Prop :=
  nilW a0 (fun x1 => addW 0 x1 (fun x2 => load1W x2 (fun x3 => lenW x3 (fun x4 => K x4))))

/-- slices_Clone_api_Seen_api_Seen -/
def S_slices_Clone_api_Seen_api_Seen (a0 : Value) (K : KV) : World → Prop :=
  eqNilSliceW .eql a0 (Value.slice none 0 0) (fun x1 => condP x1 (K (Value.slice none 0 0)) (buildSliceW [(Value.int .i64 0), (Value.int .u64 0)] 0 [] (fun x2 => appendW 2 16 x2 a0 (fun x3 => K x3))))

/-- commit_Commit_Writing -/
def S_commit_Commit_Writing (a0 : Value) (K : KV) : World → Prop :=
  nilW a0 (fun x1 => addW 17 x1 (fun x2 => load1W x2 (fun x3 => gW x3 true (fun K => K a0) (fun x4 => gW x3 true (fun K => CP Tryz.prog Fn.commit_Commit_End [x4] K) (fun x5 => gW x3 true (fun K => binIntW .eql x5 (Value.int .i64 0) K) (fun x6 => pickW x3 x6 (Value.bool false) (fun x7 => K x7)))))))

/-- commit_Commit_End -/
def S_commit_Commit_End (a0 : Value) (K : KV) : World → Prop :=
  nilW a0 (fun x1 => addW 0 x1 (fun x2 => CP Tryz.prog Fn.patience_Patience_End [x2] (fun x3 => K x3)))

/-- view_View_Known -/
def S_view_View_Known (a0 : Value) (K : KV) : World → Prop :=
  nilW a0 (fun x1 => addW 1 x1 (fun x2 => load1W x2 (fun x3 => lenW x3 (fun x4 => makeSliceW 16 [(Value.int .i64 0), (Value.int .u64 0)] (Value.int .i64 0) x4 (fun x5 => nilW a0 (fun x6 => addW 1 x6 (fun x7 => load1W x7 (fun x8 => lenW x8 (fun x9 => loopW2 x5 (Value.int .i64 0) (fun J1 x10 x11 => binIntW .lss x11 x9 (fun x12 => condP x12 (idxW 1 x8 x11 (fun x13 => load1W x13 (fun x14 => nilW a0 (fun x15 => addW 0 x15 (fun x16 => load1W x16 (fun x17 => idxW 2 x17 x14 (fun x18 => addW 0 x18 (fun x19 => load1W x19 (fun x20 => buildW [(Value.int .i64 0), (Value.int .u64 0)] [(0, 1, x14), (1, 1, x20)] (fun x21 => buildSliceW [(Value.int .i64 0), (Value.int .u64 0)] 1 [(0, 2, x21)] (fun x22 => appendW 2 16 x10 x22 (fun x23 => binIntW .add x11 (Value.int .i64 1) (fun x24 => J1 x23 x24))))))))))))) (K x10))))))))))))

/-- lock_Is -/
def S_lock_Is (a0 : Value) (K : KV) : World → Prop :=
  boxW a0 (fun x1 => addW 1 x1 (fun x2 => load1W x2 (fun x3 => condP x3 (addW 0 x1 (fun x4 => load1W x4 (fun x5 => binIntW .lss x5 (Value.int .u64 4611686018427387904) (fun x6 => gW x6 true (fun K => addW 2 x1 K) (fun x7 => gW x6 true (fun K => load1W x7 K) (fun x8 => gW x6 true (fun K => CP Tryz.prog Fn.lock_owns [x8] K) (fun x9 => pickW x6 x9 (Value.bool false) (fun x10 => K x10)))))))) (addW 0 x1 (fun x11 => load1W x11 (fun x12 => binIntW .lss x12 (Value.int .u64 4611686018427387904) (fun x13 => gW x13 true (fun K => addW 2 x1 K) (fun x14 => gW x13 true (fun K => load1W x14 K) (fun x15 => gW x13 true (fun K => binIntW .eql x15 (Value.int .i64 0) K) (fun x16 => pickW x13 x16 (Value.bool false) (fun x17 => K x17)))))))))))

/-- view_New -/
def S_view_New (a0 a1 : Value) (K : KV) : World → Prop :=
  drewW (minW a0 [(Value.int .i64 256)] (fun x1 => maxW (Value.int .i64 32) [x1] (fun x2 => andP (makeSliceW 16 [(Value.int .u64 0), (Value.bool false)] x2 x2 (fun x3 => andP (trueP) (CP Tryz.prog Fn.levels_New [a1] (fun x4 => andP (trueP) (buildW [(Value.slice none 0 0), (Value.slice none 0 0), (Value.pointer none), (Value.int .i64 0)] [(0, 1, x3), (2, 1, x4)] (fun x5 => boxW x5 (fun x6 => andP (trueP) (K x6)))))))) (CP Tryz.prog Fn.levels_New [a1] (fun x7 => andP (trueP) (makeSliceW 16 [(Value.int .u64 0), (Value.bool false)] x2 x2 (fun x8 => andP (trueP) (buildW [(Value.slice none 0 0), (Value.slice none 0 0), (Value.pointer none), (Value.int .i64 0)] [(0, 1, x8), (2, 1, x7)] (fun x9 => boxW x9 (fun x10 => andP (trueP) (K x10)))))))))))

/-- reads_New -/
def S_reads_New (a0 : Value) (K : KV) : World → Prop :=
  minW a0 [(Value.int .i64 16)] (fun x1 => maxW (Value.int .i64 1) [x1] (fun x2 => buildW [(Value.int .i64 0), (Value.slice none 0 0)] [(0, 1, x2)] (fun x3 => boxW x3 (fun x4 => K x4))))

/-- check_Run -/
def S_check_Run (a0 : Value) (K : KV) : World → Prop :=
  boxW a0 (fun x1 => addW 0 x1 (fun x2 => load1W x2 (fun x3 => lenW x3 (fun x4 => binIntW .eql x4 (Value.int .i64 0) (fun x5 => gW x5 false (fun K => addW 0 x1 K) (fun x6 => gW x5 false (fun K => load1W x6 K) (fun x7 => gW x5 false (fun K => lenW x7 K) (fun x8 => gW x5 false (fun K => binIntW .gtr x8 (Value.int .i64 40) K) (fun x9 => pickW x5 (Value.bool true) x9 (fun x10 => condP x10 (K (Value.tuple #[(Value.int .i64 0), (Value.int .i64 4)])) (addW 0 x1 (fun x11 => load1W x11 (fun x12 => lenW x12 (fun x13 => loopW2 (Value.slice none 0 0) (Value.int .i64 0) (fun J1 x14 x15 => binIntW .lss x15 x13 (fun x16 => condP x16 (idxW 5 x12 x15 (fun x17 => loadNW 5 x17 (fun x18 => newW #[(Value.int .i64 0), (Value.int .i64 0), (Value.int .i64 0), (Value.int .i64 0), (Value.int .u64 0)] (fun x19 => storeW 5 x19 x18 (fun _ => loadNW 1 x1 (fun x21 => loadNW 5 x19 (fun x22 => CP Tryz.prog Fn.check_wrong [x21, x14, x22] (fun x23 => binIntW .neq x23 (Value.int .i64 0) (fun x24 => condP x24 (K (Value.tuple #[x15, x23])) (addW 0 x19 (fun x25 => load1W x25 (fun x26 => CP Tryz.prog Fn.check_stack_behind [x14, x15, x26] (fun x27 => binIntW .add x15 (Value.int .i64 1) (fun x28 => J1 x27 x28)))))))))))))) (lenW x14 (fun x29 => binIntW .gtr x29 (Value.int .i64 0) (fun x30 => condP x30 (CP Tryz.prog Fn.check_stack_inmost [x14] (fun x31 => K (Value.tuple #[x31, (Value.int .i64 12)]))) (drewW (loadNW 1 x1 (fun x32 => loadNW 1 x1 (fun x33 => CP Tryz.prog Fn.check_regions [x33] (fun x34 => andP (andP (trueP) (andP (loadNW 1 x1 (fun v => eqP v x32)) (trueP))) (CP Tryz.prog Fn.check_jumps [x32, x34] (fun x35 => andP (andP (trueP) (trueP)) (extractW 0 x35 (fun x36 => extractW 1 x35 (fun x37 => K (Value.tuple #[x36, x37]))))))))))))))))))))))))))))))

/-- check_Match -/
def S_check_Match (a0 : Value) (K : KV) : World → Prop :=
  boxW a0 (fun x1 => loadNW 1 x1 (fun x2 => CP Tryz.prog Fn.check_Run [x2] (fun x3 => extractW 0 x3 (fun x4 => extractW 1 x3 (fun x5 => binIntW .neq x5 (Value.int .i64 0) (fun x6 => condP x6 (K (Value.slice none 0 0)) (loadNW 1 x1 (fun x7 => CP Tryz.prog Fn.check_regions [x7] (fun x8 => addW 0 x1 (fun x9 => load1W x9 (fun x10 => lenW x10 (fun x11 => makeSliceW 8 [(Value.int .i64 0)] x11 x11 (fun x12 => lenW x12 (fun x13 => loopW1 (Value.int .i64 0) (fun J1 x14 => binIntW .lss x14 x13 (fun x15 => condP x15 (idxW 1 x12 x14 (fun x16 => storeW 1 x16 (Value.int .i64 (-1)) (fun _ => binIntW .add x14 (Value.int .i64 1) (fun x18 => J1 x18)))) (addW 0 x1 (fun x19 => load1W x19 (fun x20 => lenW x20 (fun x21 => loopW1 (Value.int .i64 0) (fun J2 x22 => binIntW .lss x22 x21 (fun x23 => condP x23 (idxW 5 x20 x22 (fun x24 => loadNW 5 x24 (fun x25 => newW #[(Value.int .i64 0), (Value.int .i64 0), (Value.int .i64 0), (Value.int .i64 0), (Value.int .u64 0)] (fun x26 => storeW 5 x26 x25 (fun _ => addW 0 x26 (fun x28 => load1W x28 (fun x29 => CP Tryz.prog Fn.check_ends [x29] (fun x30 => binIntW .gtr x30 (Value.int .i64 0) (fun x31 => joinW0 (binIntW .add x22 (Value.int .i64 1) (fun x32 => J2 x32)) (fun j1 => condP x31 (idxW 1 x8 x22 (fun x33 => load1W x33 (fun x34 => idxW 1 x12 x34 (fun x35 => storeW 1 x35 x22 (fun _ => j1))))) (j1))))))))))) (addW 0 x1 (fun x37 => load1W x37 (fun x38 => lenW x38 (fun x39 => loopW1 (Value.int .i64 0) (fun J3 x40 => binIntW .lss x40 x39 (fun x41 => condP x41 (idxW 5 x38 x40 (fun x42 => loadNW 5 x42 (fun x43 => newW #[(Value.int .i64 0), (Value.int .i64 0), (Value.int .i64 0), (Value.int .i64 0), (Value.int .u64 0)] (fun x44 => storeW 5 x44 x43 (fun _ => addW 0 x44 (fun x46 => load1W x46 (fun x47 => binIntW .eql x47 (Value.int .i64 16) (fun x48 => joinW0 (binIntW .add x40 (Value.int .i64 1) (fun x49 => J3 x49)) (fun j2 => condP x48 (idxW 1 x8 x40 (fun x50 => load1W x50 (fun x51 => idxW 1 x12 x51 (fun x52 => load1W x52 (fun x53 => idxW 1 x12 x40 (fun x54 => storeW 1 x54 x53 (fun _ => j2))))))) (j2)))))))))) (K x12)))))))))))))))))))))))))))))

/-- slate_New -/
def S_slate_New (K : KV) : World → Prop :=
  buildW [(Value.slice none 0 0)] [] (fun x1 => boxW x1 (fun x2 => K x2))

/-- interp_Interp_Run -/
def S_interp_Interp_Run (a0 : Value) (K : KV) : World → Prop :=
  loopW0 (fun J1 => nilW a0 (fun x1 => addW 5 x1 (fun x2 => load1W x2 (fun x3 => binIntW .eql x3 (Value.int .i64 0) (fun x4 => condP x4 (joinW0 (J1) (fun j1 => nilW a0 (fun x5 => addW 3 x5 (fun x6 => load1W x6 (fun x7 => binIntW .neq x7 (Value.int .i64 0) (fun x8 => condP x8 (nilW a0 (fun x9 => addW 3 x9 (fun x10 => load1W x10 (fun x11 => CP Tryz.prog Fn.interp_Interp_fail [a0, x11] (fun x12 => j1))))) (drewW (nilW a0 (fun x13 => addW 15 x13 (fun x14 => load1W x14 (fun x15 => nilW a0 (fun x16 => addW 0 x16 (fun x17 => addW 0 x17 (fun x18 => load1W x18 (fun x19 => lenW x19 (fun x20 => binIntW .eql x15 x20 (fun x21 => condP x21 (nilW a0 (fun x22 => addW 5 x22 (fun x23 => storeW 1 x23 (Value.int .i64 2) (fun _ => j1)))) (nilW a0 (fun x25 => addW 17 x25 (fun x26 => load1W x26 (fun x27 => binIntW .eql x27 (Value.int .i64 0) (fun x28 => condP x28 (CP Tryz.prog Fn.interp_Interp_fail [a0, (Value.int .i64 6)] (fun x29 => j1)) (nilW a0 (fun x30 => addW 15 x30 (fun x31 => load1W x31 (fun x32 => binIntW .add x32 (Value.int .i64 1) (fun x33 => nilW a0 (fun x34 => addW 16 x34 (fun x35 => storeW 1 x35 x33 (fun _ => drewW (nilW a0 (fun x37 => addW 0 x37 (fun x38 => addW 0 x38 (fun x39 => load1W x39 (fun x40 => nilW a0 (fun x41 => addW 15 x41 (fun x42 => load1W x42 (fun x43 => idxW 5 x40 x43 (fun x44 => loadNW 5 x44 (fun x45 => CP Tryz.prog Fn.interp_Interp_do [a0, x45] (fun x46 => andP (andP (trueP) (andP (trueP) (andP (trueP) (trueP)))) (binIntW .eql x46 (Value.int .i64 0) (fun x47 => joinW0 (j1) (fun j2 => condP x47 (nilW a0 (fun x48 => addW 16 x48 (fun x49 => load1W x49 (fun x50 => nilW a0 (fun x51 => addW 15 x51 (fun x52 => storeW 1 x52 x50 (fun _ => nilW a0 (fun x54 => addW 17 x54 (fun x55 => load1W x55 (fun x56 => binIntW .sub x56 (Value.int .i64 1) (fun x57 => nilW a0 (fun x58 => addW 17 x58 (fun x59 => storeW 1 x59 x57 (fun _ => j2)))))))))))))) (binIntW .eql x46 (Value.int .i64 11) (fun x61 => condP x61 (K (Value.int .i64 1)) (CP Tryz.prog Fn.interp_Interp_fail [a0, x46] (fun x62 => j2)))))))))))))))))))))))))))))))))))))))))))))))) (nilW a0 (fun x63 => addW 5 x63 (fun x64 => load1W x64 (fun x65 => K x65)))))))))

/-- interp_Interp_Err -/
def S_interp_Interp_Err (a0 : Value) (K : KV) : World → Prop :=
  nilW a0 (fun x1 => addW 4 x1 (fun x2 => load1W x2 (fun x3 => K x3)))

/-- fetch_New -/
def S_fetch_New (a0 a1 a2 a3 a4 : Value) (K : KV) : World → Prop :=
  CP Tryz.prog Fn.patience_New [a0, a3] (fun x1 => buildW [(Value.int .i64 0), (Value.int .i64 0), (Value.int .i64 0), (Value.int .i64 0), (Value.int .i64 0), (Value.int .i64 0), (Value.int .i64 0), (Value.int .u64 0), (Value.int .i64 0), (Value.int .u64 0), (Value.bool false), (Value.int .i64 0), (Value.int .u64 0)] [(0, 5, x1), (5, 1, a1), (6, 1, a2), (7, 1, a4)] (fun x2 => boxW x2 (fun x3 => K x3)))

/-- stripe_Of -/
def S_stripe_Of (a0 a1 a2 : Value) (K : KV) : World → Prop :=
  binIntW .lss a0 (Value.int .i64 0) (fun x1 => condP x1 (K (Value.int .i64 (-1))) (drewW (CP Tryz.prog Fn.stripe_near [a2, (Value.int .i64 16)] (fun x2 => andP (trueP) (binIntW .quo a0 x2 (fun x3 => CP Tryz.prog Fn.stripe_near [a1, (Value.int .i64 16)] (fun x4 => andP (trueP) (binIntW .rem x3 x4 (fun x5 => K x5)))))))))

/-- extend_New -/
def S_extend_New (a0 a1 a2 : Value) (K : KV) : World → Prop :=
  CP Tryz.prog Fn.patience_New [a0, a1] (fun x1 => CP Tryz.prog Fn.slices_Clone_api_Seen_api_Seen [a2] (fun x2 => buildW [(Value.int .i64 0), (Value.int .i64 0), (Value.int .i64 0), (Value.int .i64 0), (Value.int .i64 0), (Value.slice none 0 0), (Value.bool false), (Value.int .i64 0), (Value.int .u64 0)] [(0, 5, x1), (5, 1, x2)] (fun x3 => boxW x3 (fun x4 => K x4))))

/-- levels_Levels_Cells -/
def S_levels_Levels_Cells (a0 : Value) (K : KV) : World → Prop :=
  newW #[(Value.slice none 0 0)] (fun x1 => nilW a0 (fun x2 => addW 1 x2 (fun x3 => load1W x3 (fun x4 => CP Tryz.prog Fn.slices_Backward_levels_level_levels_level [x4] (fun x5 => backW Fn.slices_Backward_levels_level_levels_level_1 x5 (fun J R x6 x7 => CP Tryz.prog Fn.writes_New [(Value.int .i64 96)] (fun x8 => nilW x7 (fun x9 => addW 0 x9 (fun x10 => load1W x10 (fun x11 => CP Tryz.prog Fn.writes_Writes_All [x11] (fun x12 => CP Tryz.prog Fn.writes_Writes_Take [x8, x12] (fun x13 => load1W x1 (fun x14 => CP Tryz.prog Fn.writes_Writes_Take [x8, x14] (fun x15 => CP Tryz.prog Fn.writes_Writes_All [x8] (fun x16 => storeW 1 x1 x16 (fun _ => J))))))))))) (fun K => load1W x1 (fun x18 => K x18)) (fun K => K (Value.slice none 0 0)) K)))))

/-- patience_New -/
def S_patience_New (a0 a1 : Value) (K : KV) : World → Prop :=
  newW #[(Value.int .i64 0), (Value.int .i64 0), (Value.int .i64 0), (Value.int .i64 0), (Value.int .i64 0)] (fun x1 => minW a1 [(Value.int .i64 4)] (fun x2 => maxW (Value.int .i64 0) [x2] (fun x3 => buildW [(Value.int .i64 0), (Value.int .i64 0), (Value.int .i64 0), (Value.int .i64 0), (Value.int .i64 0)] [(0, 1, a0), (1, 1, x3), (3, 1, (Value.int .i64 (-1)))] (fun x4 => storeW 5 x1 x4 (fun _ => loadNW 5 x1 (fun x6 => K x6))))))

/-- writes_Stripes -/
def S_writes_Stripes (a0 a1 a2 : Value) (K : KV) : World → Prop :=
  lenW a0 (fun x1 => loopW2 (Value.slice none 0 0) (Value.int .i64 0) (fun J1 x2 x3 => binIntW .lss x3 x1 (fun x4 => condP x4 (idxW 2 a0 x3 (fun x5 => loadNW 2 x5 (fun x6 => newW #[(Value.int .i64 0), (Value.int .u64 0)] (fun x7 => storeW 2 x7 x6 (fun _ => addW 0 x7 (fun x9 => load1W x9 (fun x10 => CP Tryz.prog Fn.stripe_Of [x10, a1, a2] (fun x11 => binIntW .geq x11 (Value.int .i64 0) (fun x12 => joinW1 (fun x13 => binIntW .add x3 (Value.int .i64 1) (fun x14 => J1 x13 x14)) (fun j1 => condP x12 (buildSliceW [(Value.int .i64 0)] 1 [(0, 1, x11)] (fun x15 => appendW 1 8 x2 x15 (fun x16 => j1 x16))) (j1 x2))))))))))) (CP Tryz.prog Fn.slices_Sort_int_int [x2] (fun x17 => CP Tryz.prog Fn.slices_Compact_int_int [x2] (fun x18 => K x18))))))

/-- commit_Commit_more -/
def S_commit_Commit_more (a0 : Value) (K : KV) : World → Prop :=
  nilW a0 (fun x1 => addW 11 x1 (fun x2 => storeW 1 x2 (Value.int .i64 0) (fun _ => drewW (nilW a0 (fun x4 => addW 10 x4 (fun x5 => load1W x5 (fun x6 => lenW x6 (fun x7 => nilW a0 (fun x8 => addW 9 x8 (fun x9 => load1W x9 (fun x10 => lenW x10 (fun x11 => binIntW .eql x7 x11 (fun x12 => joinW0 (K (Value.tuple #[])) (fun j1 => condP x12 (nilW a0 (fun x13 => addW 11 x13 (fun x14 => storeW 1 x14 (Value.int .i64 2) (fun _ => j1)))) (j1)))))))))))))))

/-- attempt_Attempt_fetched -/
def S_attempt_Attempt_fetched (a0 : Value) (K : KV) : World → Prop :=
  nilW a0 (fun x1 => addW 16 x1 (fun x2 => load1W x2 (fun x3 => CP Tryz.prog Fn.fetch_Fetch_End [x3] (fun x4 => binIntW .eql x4 (Value.int .i64 6) (fun x5 => condP x5 (CP Tryz.prog Fn.attempt_Attempt_later [a0, (Value.int .i64 4)] (fun x6 => K (Value.tuple #[]))) (drewW (nilW a0 (fun x7 => addW 13 x7 (fun x8 => load1W x8 (fun x9 => nilW a0 (fun x10 => addW 16 x10 (fun x11 => load1W x11 (fun x12 => CP Tryz.prog Fn.fetch_Fetch_Seen [x12] (fun x13 => andP (andP (trueP) (andP (load1W x8 (fun v => eqP v x9)) (trueP))) (CP Tryz.prog Fn.reads_Reads_Add [x9, x13] (fun x14 => andP (andP (trueP) (trueP)) (binIntW .eql x14 (Value.int .i64 0) (fun x15 => joinW0 (K (Value.tuple #[])) (fun j1 => condP x15 (drewW (nilW a0 (fun x16 => addW 12 x16 (fun x17 => load1W x17 (fun x18 => nilW a0 (fun x19 => addW 12 x19 (fun x20 => load1W x20 (fun x21 => nilW a0 (fun x22 => addW 16 x22 (fun x23 => load1W x23 (fun x24 => CP Tryz.prog Fn.view_View_Need [x21] (fun x25 => andP (andP (load1W x23 (fun v => eqP v x24)) (andP (trueP) (andP (load1W x17 (fun v => eqP v x18)) (trueP)))) (CP Tryz.prog Fn.fetch_Fetch_Word [x24] (fun x26 => andP (andP (trueP) (andP (load1W x17 (fun v => eqP v x18)) (trueP))) (CP Tryz.prog Fn.view_View_Know [x18, x25, x26] (fun x27 => andP (andP (trueP) (trueP)) (CP Tryz.prog Fn.attempt_Attempt_work [a0] (fun x28 => j1)))))))))))))))))) (binIntW .eql x14 (Value.int .i64 14) (fun x29 => joinW0 (j1) (fun j2 => condP x29 (CP Tryz.prog Fn.attempt_Attempt_out [a0, (Value.int .i64 5), (Value.int .i64 0), (Value.int .i64 (-1))] (fun x30 => j2)) (CP Tryz.prog Fn.attempt_Attempt_out [a0, (Value.int .i64 4), x14, (Value.int .i64 (-1))] (fun x31 => j2))))))))))))))))))))))))

/-- extend_Extend_Stamp -/
def S_extend_Extend_Stamp (a0 : Value) (K : KV) : World → Prop :=
  CP Tryz.prog Fn.extend_Extend_End [a0] (fun x1 => binIntW .neq x1 (Value.int .i64 2) (fun x2 => condP x2 (K (Value.int .u64 0)) (nilW a0 (fun x3 => addW 8 x3 (fun x4 => load1W x4 (fun x5 => K x5))))))

/-- commit_Commit_Err -/
def S_commit_Commit_Err (a0 : Value) (K : KV) : World → Prop :=
  nilW a0 (fun x1 => addW 0 x1 (fun x2 => CP Tryz.prog Fn.patience_Patience_Err [x2] (fun x3 => K x3)))

/-- slate_Slate_Copy -/
def S_slate_Slate_Copy (a0 : Value) (K : KV) : World → Prop :=
  nilW a0 (fun x1 => addW 0 x1 (fun x2 => load1W x2 (fun x3 => CP Tryz.prog Fn.slices_Clone_any_any [x3] (fun x4 => buildW [(Value.slice none 0 0)] [(0, 1, x4)] (fun x5 => boxW x5 (fun x6 => K x6))))))

/-- slate_word -/
def S_slate_word (a0 : Value) (K : KV) : World → Prop :=
  assertW 22 (Value.int .u64 0) a0 (fun x1 => extractW 1 x1 (fun x2 => extractW 0 x1 (fun x3 => condP x2 (CP Tryz.prog Fn.strconv_FormatUint [x3, (Value.int .i64 10)] (fun x4 => K x4)) (assertW 4 (Value.bool false) a0 (fun x5 => extractW 1 x5 (fun x6 => extractW 0 x5 (fun x7 => condP x6 (condP x7 (K (strV [121, 101, 115])) (K (strV [110, 111]))) (K (strV [110, 111, 110, 101])))))))))

/-- strings_Join -/
def S_strings_Join (a0 a1 : Value) (K : KV) : World → Prop :=
  lenW a0 (fun x1 => binIntW .eql x1 (Value.int .i64 0) (fun x2 => condP x2 (K (strV [])) (binIntW .eql x1 (Value.int .i64 1) (fun x3 => condP x3 (idxW 1 a0 (Value.int .i64 0) (fun x4 => load1W x4 (fun x5 => K x5))) (falseP)))))

/-- levels_Levels_Frees -/
def S_levels_Levels_Frees (a0 : Value) (K : KV) : World → Prop :=
  nilW a0 (fun x1 => addW 1 x1 (fun x2 => load1W x2 (fun x3 => lenW x3 (fun x4 => loopW2 (Value.slice none 0 0) (Value.int .i64 0) (fun J1 x5 x6 => binIntW .lss x6 x4 (fun x7 => condP x7 (idxW 1 x3 x6 (fun x8 => load1W x8 (fun x9 => nilW x9 (fun x10 => addW 1 x10 (fun x11 => load1W x11 (fun x12 => appendW 1 8 x5 x12 (fun x13 => binIntW .add x6 (Value.int .i64 1) (fun x14 => J1 x13 x14)))))))) (K x5)))))))

/-- patience_Patience_End -/
def S_patience_Patience_End (a0 : Value) (K : KV) : World → Prop :=
  nilW a0 (fun x1 => addW 2 x1 (fun x2 => load1W x2 (fun x3 => K x3)))

/-- lock_owns -/
def S_lock_owns (a0 : Value) (K : KV) : World → Prop :=
  binIntW .geq a0 (Value.int .i64 0) (fun x1 => gW x1 true (fun K => K a0) (fun x2 => gW x1 true (fun K => binIntW .lss x2 (Value.int .i64 4) K) (fun x3 => pickW x1 x3 (Value.bool false) (fun x4 => K x4))))

/-- levels_New -/
def S_levels_New (a0 : Value) (K : KV) : World → Prop :=
  minW a0 [(Value.int .i64 96)] (fun x1 => maxW (Value.int .i64 0) [x1] (fun x2 => CP Tryz.prog Fn.levels_fresh [] (fun x3 => buildSliceW [(Value.pointer none)] 1 [(0, 1, x3)] (fun x4 => buildW [(Value.int .i64 0), (Value.slice none 0 0)] [(0, 1, x2), (1, 1, x4)] (fun x5 => boxW x5 (fun x6 => K x6))))))

/-- check_wrong -/
def S_check_wrong (a0 a1 a2 : Value) (K : KV) : World → Prop :=
  boxW a0 (fun x1 => boxW a2 (fun x2 => loadNW 5 x2 (fun x3 => CP Tryz.prog Fn.code_May [x3] (fun x4 => notW x4 (fun x5 => condP x5 (K (Value.int .i64 8)) (drewW (addW 0 x2 (fun x6 => load1W x6 (fun x7 => CP Tryz.prog Fn.check_ends [x7] (fun x8 => andP (andP (trueP) (trueP)) (binIntW .gtr x8 (Value.int .i64 0) (fun x9 => gW x9 true (fun K => K a1) (fun x10 => gW x9 true (fun K => loadNW 1 x1 K) (fun x11 => gW x9 true (fun K => addW 0 x2 K) (fun x12 => gW x9 true (fun K => load1W x12 K) (fun x13 => gW x9 true (fun K => CP Tryz.prog Fn.check_stack_op [x10, x11] K) (fun x14 => andP (andP (gW x9 true (fun K => load1W x12 K) (fun v => eqP v x13)) (andP (trueP) (trueP))) (gW x9 true (fun K => CP Tryz.prog Fn.check_ends [x13] K) (fun x15 => andP (andP (trueP) (trueP)) (gW x9 true (fun K => binIntW .neq x14 x15 K) (fun x16 => pickW x9 x16 (Value.bool false) (fun x17 => condP x17 (K (Value.int .i64 12)) (addW 0 x2 (fun x18 => load1W x18 (fun x19 => binIntW .eql x19 (Value.int .i64 16) (fun x20 => gW x20 true (fun K => K a1) (fun x21 => gW x20 true (fun K => loadNW 1 x1 K) (fun x22 => gW x20 true (fun K => CP Tryz.prog Fn.check_stack_op [x21, x22] K) (fun x23 => gW x20 true (fun K => binIntW .neq x23 (Value.int .i64 14) K) (fun x24 => pickW x20 x24 (Value.bool false) (fun x25 => condP x25 (K (Value.int .i64 12)) (addW 0 x2 (fun x26 => load1W x26 (fun x27 => CP Tryz.prog Fn.check_begins [x27] (fun x28 => gW x28 true (fun K => K a1) (fun x29 => gW x28 true (fun K => lenW x29 K) (fun x30 => gW x28 true (fun K => binIntW .geq x30 (Value.int .i64 5) K) (fun x31 => pickW x28 x31 (Value.bool false) (fun x32 => condP x32 (K (Value.int .i64 9)) (K (Value.int .i64 0)))))))))))))))))))))))))))))))))))))))))

/-- check_stack_behind -/
def S_check_stack_behind (a0 a1 a2 : Value) (K : KV) : World → Prop :=
  CP Tryz.prog Fn.check_ends [a2] (fun x1 => binIntW .gtr x1 (Value.int .i64 0) (fun x2 => joinW1 (fun x3 => CP Tryz.prog Fn.check_begins [a2] (fun x4 => gW x4 false (fun K => K a2) (fun x5 => gW x4 false (fun K => binIntW .eql x5 (Value.int .i64 18) K) (fun x6 => pickW x4 (Value.bool true) x6 (fun x7 => joinW1 (fun x8 => K x8) (fun j2 => condP x7 (buildSliceW [(Value.int .i64 0)] 1 [(0, 1, a1)] (fun x9 => appendW 1 8 x3 x9 (fun x10 => j2 x10))) (j2 x3))))))) (fun j1 => condP x2 (lenW a0 (fun x11 => binIntW .sub x11 (Value.int .i64 1) (fun x12 => sliceW 1 a0 none (some x12) (fun x13 => j1 x13)))) (j1 a0))))

/-- check_stack_inmost -/
def S_check_stack_inmost (a0 : Value) (K : KV) : World → Prop :=
  lenW a0 (fun x1 => binIntW .eql x1 (Value.int .i64 0) (fun x2 => condP x2 (K (Value.int .i64 (-1))) (lenW a0 (fun x3 => binIntW .sub x3 (Value.int .i64 1) (fun x4 => idxW 1 a0 x4 (fun x5 => load1W x5 (fun x6 => K x6)))))))

/-- check_jumps -/
def S_check_jumps (a0 a1 : Value) (K : KV) : World → Prop :=
  boxW a0 (fun x1 => addW 0 x1 (fun x2 => load1W x2 (fun x3 => lenW x3 (fun x4 => loopW1 (Value.int .i64 0) (fun J1 x5 => binIntW .lss x5 x4 (fun x6 => condP x6 (joinW0 (binIntW .add x5 (Value.int .i64 1) (fun x7 => J1 x7)) (fun j1 => idxW 5 x3 x5 (fun x8 => loadNW 5 x8 (fun x9 => newW #[(Value.int .i64 0), (Value.int .i64 0), (Value.int .i64 0), (Value.int .i64 0), (Value.int .u64 0)] (fun x10 => storeW 5 x10 x9 (fun _ => addW 0 x10 (fun x12 => load1W x12 (fun x13 => CP Tryz.prog Fn.code_Jumps [x13] (fun x14 => notW x14 (fun x15 => condP x15 (j1) (drewW (addW 3 x10 (fun x16 => load1W x16 (fun x17 => addW 0 x1 (fun x18 => load1W x18 (fun x19 => lenW x19 (fun x20 => binIntW .gtr x17 x20 (fun x21 => gW x21 false (fun K => addW 3 x10 K) (fun x22 => gW x21 false (fun K => load1W x22 K) (fun x23 => gW x21 false (fun K => addW 0 x1 K) (fun x24 => gW x21 false (fun K => load1W x24 K) (fun x25 => gW x21 false (fun K => lenW x25 K) (fun x26 => gW x21 false (fun K => binIntW .eql x23 x26 K) (fun x27 => gW x21 false (fun K => K x27) (fun x28 => gW x28 true (fun K => K a1) (fun x29 => gW x28 true (fun K => K x5) (fun x30 => gW x28 true (fun K => idxW 1 x29 x30 K) (fun x31 => gW x28 true (fun K => load1W x31 K) (fun x32 => gW x28 true (fun K => binIntW .neq x32 (Value.int .i64 (-1)) K) (fun x33 => gW x21 false (fun K => pickW x28 x33 (Value.bool false) K) (fun x34 => pickW x21 (Value.bool true) x34 (fun x35 => gW x35 false (fun K => addW 3 x10 K) (fun x36 => gW x35 false (fun K => load1W x36 K) (fun x37 => gW x35 false (fun K => addW 0 x1 K) (fun x38 => gW x35 false (fun K => load1W x38 K) (fun x39 => gW x35 false (fun K => lenW x39 K) (fun x40 => gW x35 false (fun K => binIntW .lss x37 x40 K) (fun x41 => gW x35 false (fun K => K x41) (fun x42 => gW x42 true (fun K => K a1) (fun x43 => gW x42 true (fun K => addW 3 x10 K) (fun x44 => gW x42 true (fun K => load1W x44 K) (fun x45 => gW x42 true (fun K => idxW 1 x43 x45 K) (fun x46 => gW x42 true (fun K => load1W x46 K) (fun x47 => gW x42 true (fun K => K a1) (fun x48 => gW x42 true (fun K => K x5) (fun x49 => gW x42 true (fun K => idxW 1 x48 x49 K) (fun x50 => gW x42 true (fun K => load1W x50 K) (fun x51 => gW x42 true (fun K => binIntW .neq x47 x51 K) (fun x52 => gW x35 false (fun K => pickW x42 x52 (Value.bool false) K) (fun x53 => pickW x35 (Value.bool true) x53 (fun x54 => condP x54 (K (Value.tuple #[x5, (Value.int .i64 2)])) (j1)))))))))))))))))))))))))))))))))))))))))))))))))))) (K (Value.tuple #[(Value.int .i64 0), (Value.int .i64 0)]))))))))

/-- check_regions -/
def S_check_regions (a0 : Value) (K : KV) : World → Prop :=
  boxW a0 (fun x1 => addW 0 x1 (fun x2 => load1W x2 (fun x3 => lenW x3 (fun x4 => makeSliceW 8 [(Value.int .i64 0)] x4 x4 (fun x5 => addW 0 x1 (fun x6 => load1W x6 (fun x7 => lenW x7 (fun x8 => loopW2 (Value.slice none 0 0) (Value.int .i64 0) (fun J1 x9 x10 => binIntW .lss x10 x8 (fun x11 => condP x11 (idxW 5 x7 x10 (fun x12 => loadNW 5 x12 (fun x13 => newW #[(Value.int .i64 0), (Value.int .i64 0), (Value.int .i64 0), (Value.int .i64 0), (Value.int .u64 0)] (fun x14 => storeW 5 x14 x13 (fun _ => CP Tryz.prog Fn.check_stack_inmost [x9] (fun x16 => idxW 1 x5 x10 (fun x17 => storeW 1 x17 x16 (fun _ => addW 0 x14 (fun x19 => load1W x19 (fun x20 => CP Tryz.prog Fn.check_stack_behind [x9, x10, x20] (fun x21 => binIntW .add x10 (Value.int .i64 1) (fun x22 => J1 x21 x22)))))))))))) (K x5)))))))))))

/-- check_ends -/
def S_check_ends (a0 : Value) (K : KV) : World → Prop :=
  binIntW .eql a0 (Value.int .i64 15) (fun x1 => condP x1 (K (Value.int .i64 14)) (binIntW .eql a0 (Value.int .i64 18) (fun x2 => condP x2 (K (Value.int .i64 17)) (binIntW .eql a0 (Value.int .i64 19) (fun x3 => condP x3 (K (Value.int .i64 18)) (K (Value.int .i64 0)))))))

/-- interp_Interp_fail -/
def S_interp_Interp_fail (a0 a1 : Value) (K : KV) : World → Prop :=
  nilW a0 (fun x1 => addW 5 x1 (fun x2 => storeW 1 x2 (Value.int .i64 4) (fun _ => nilW a0 (fun x4 => addW 4 x4 (fun x5 => storeW 1 x5 a1 (fun _ => K (Value.tuple #[])))))))

/-- interp_Interp_do -/
def S_interp_Interp_do (a0 a1 : Value) (K : KV) : World → Prop :=
  boxW a1 (fun x1 => drewW (addW 1 x1 (fun x2 => load1W x2 (fun x3 => binIntW .rem x3 (Value.int .i64 8) (fun x4 => nilW a0 (fun x5 => addW 6 x5 (fun x6 => idxArrW 8 1 x6 x4 (fun x7 => addW 2 x1 (fun x8 => load1W x8 (fun x9 => binIntW .rem x9 (Value.int .i64 8) (fun x10 => nilW a0 (fun x11 => addW 6 x11 (fun x12 => idxArrW 8 1 x12 x10 (fun x13 => load1W x13 (fun x14 => addW 3 x1 (fun x15 => load1W x15 (fun x16 => binIntW .rem x16 (Value.int .i64 8) (fun x17 => nilW a0 (fun x18 => addW 6 x18 (fun x19 => idxArrW 8 1 x19 x17 (fun x20 => load1W x20 (fun x21 => addW 0 x1 (fun x22 => load1W x22 (fun x23 => binIntW .eql x23 (Value.int .i64 1) (fun x24 => joinW0 (K (Value.int .i64 0)) (fun j1 => condP x24 (addW 4 x1 (fun x25 => load1W x25 (fun x26 => nilW x7 (fun x27 => storeW 1 x27 x26 (fun _ => j1))))) (binIntW .eql x23 (Value.int .i64 2) (fun x29 => joinW0 (j1) (fun j2 => condP x29 (nilW x7 (fun x30 => storeW 1 x30 x14 (fun _ => j2))) (binIntW .eql x23 (Value.int .i64 3) (fun x32 => joinW0 (j2) (fun j3 => condP x32 (binIntW .add x14 x21 (fun x33 => nilW x7 (fun x34 => storeW 1 x34 x33 (fun _ => j3)))) (binIntW .eql x23 (Value.int .i64 4) (fun x36 => joinW0 (j3) (fun j4 => condP x36 (binIntW .sub x14 x21 (fun x37 => nilW x7 (fun x38 => storeW 1 x38 x37 (fun _ => j4)))) (binIntW .eql x23 (Value.int .i64 5) (fun x40 => joinW0 (j4) (fun j5 => condP x40 (binIntW .mul x14 x21 (fun x41 => nilW x7 (fun x42 => storeW 1 x42 x41 (fun _ => j5)))) (binIntW .eql x23 (Value.int .i64 6) (fun x44 => joinW0 (j5) (fun j6 => condP x44 (binIntW .lss x14 x21 (fun x45 => CP Tryz.prog Fn.interp_truth [x45] (fun x46 => nilW x7 (fun x47 => storeW 1 x47 x46 (fun _ => j6))))) (binIntW .eql x23 (Value.int .i64 7) (fun x49 => joinW0 (j6) (fun j7 => condP x49 (binIntW .eql x14 x21 (fun x50 => CP Tryz.prog Fn.interp_truth [x50] (fun x51 => nilW x7 (fun x52 => storeW 1 x52 x51 (fun _ => j7))))) (binIntW .eql x23 (Value.int .i64 12) (fun x54 => joinW0 (j7) (fun j8 => condP x54 (addW 3 x1 (fun x55 => load1W x55 (fun x56 => nilW a0 (fun x57 => addW 16 x57 (fun x58 => storeW 1 x58 x56 (fun _ => j8)))))) (binIntW .eql x23 (Value.int .i64 13) (fun x60 => joinW0 (j8) (fun j9 => condP x60 (nilW x7 (fun x61 => load1W x61 (fun x62 => binIntW .eql x62 (Value.int .u64 0) (fun x63 => joinW0 (j9) (fun j10 => condP x63 (addW 3 x1 (fun x64 => load1W x64 (fun x65 => nilW a0 (fun x66 => addW 16 x66 (fun x67 => storeW 1 x67 x65 (fun _ => j10)))))) (j10)))))) (binIntW .eql x23 (Value.int .i64 21) (fun x69 => condP x69 (drewW (nilW a0 (fun x70 => addW 14 x70 (fun x71 => load1W x71 (fun x72 => nilW x7 (fun x73 => load1W x73 (fun x74 => CP Tryz.prog Fn.slate_Slate_AddNum [x72, x74] (fun x75 => andP (andP (trueP) (andP (trueP) (trueP))) (notW x75 (fun x76 => condP x76 (K (Value.int .i64 5)) (j9))))))))))) (binIntW .eql x23 (Value.int .i64 22) (fun x77 => condP x77 (K (Value.int .i64 13)) (binIntW .eql x23 (Value.int .i64 23) (fun x78 => condP x78 (loadNW 5 x1 (fun x79 => CP Tryz.prog Fn.interp_Interp_call [a0, x79] (fun x80 => K x80))) (binIntW .eql x23 (Value.int .i64 8) (fun x81 => joinW1 (fun x82 => condP x82 (loadNW 5 x1 (fun x83 => CP Tryz.prog Fn.interp_Interp_touch [a0, x83, x7, x14] (fun x84 => K x84))) (loadNW 5 x1 (fun x85 => CP Tryz.prog Fn.interp_Interp_turn [a0, x85] (fun x86 => K x86)))) (fun j11 => condP x81 (j11 x81) (binIntW .eql x23 (Value.int .i64 9) (fun x87 => joinW1 (fun x88 => j11 x88) (fun j12 => condP x87 (j12 x87) (binIntW .eql x23 (Value.int .i64 10) (fun x89 => joinW1 (fun x90 => j12 x90) (fun j13 => condP x89 (j13 x89) (binIntW .eql x23 (Value.int .i64 11) (fun x91 => j13 x91)))))))))))))))))))))))))))))))))))))))))))))))))))))))))))))))))))

/-- view_View_Read -/
def S_view_View_Read (a0 a1 : Value) (K : KV) : World → Prop :=
  CP Tryz.prog Fn.view_View_is [a0, a1] (fun x1 => notW x1 (fun x2 => condP x2 (K (Value.tuple #[(Value.int .u64 0), (Value.int .i64 2)])) (nilW a0 (fun x3 => addW 2 x3 (fun x4 => load1W x4 (fun x5 => CP Tryz.prog Fn.levels_Levels_Get [x5, a1] (fun x6 => extractW 0 x6 (fun x7 => extractW 1 x6 (fun x8 => condP x8 (K (Value.tuple #[x7, (Value.int .i64 0)])) (nilW a0 (fun x9 => addW 0 x9 (fun x10 => load1W x10 (fun x11 => idxW 2 x11 a1 (fun x12 => loadNW 2 x12 (fun x13 => newW #[(Value.int .u64 0), (Value.bool false)] (fun x14 => storeW 2 x14 x13 (fun _ => addW 1 x14 (fun x16 => load1W x16 (fun x17 => condP x17 (addW 0 x14 (fun x18 => load1W x18 (fun x19 => K (Value.tuple #[x19, (Value.int .i64 0)])))) (nilW a0 (fun x20 => addW 3 x20 (fun x21 => storeW 1 x21 a1 (fun _ => K (Value.tuple #[(Value.int .u64 0), (Value.int .i64 11)]))))))))))))))))))))))))

/-- slices_Backward_levels_level_levels_level -/
def S_slices_Backward_levels_level_levels_level (a0 : Value) (K : KV) : World → Prop :=
  boxW a0 (fun x1 => K (Value.func (.func Fn.slices_Backward_levels_level_levels_level_1) #[] #[x1]))

/-- writes_New -/
def S_writes_New (a0 : Value) (K : KV) : World → Prop :=
  minW a0 [(Value.int .i64 96)] (fun x1 => maxW (Value.int .i64 0) [x1] (fun x2 => buildW [(Value.int .i64 0), (Value.slice none 0 0)] [(0, 1, x2)] (fun x3 => boxW x3 (fun x4 => K x4))))

/-- writes_Writes_Take -/
def S_writes_Writes_Take (a0 a1 : Value) (K : KV) : World → Prop :=
  CP Tryz.prog Fn.writes_Writes_All [a0] (fun x1 => lenW a1 (fun x2 => loopW1 (Value.int .i64 0) (fun J1 x3 => binIntW .lss x3 x2 (fun x4 => condP x4 (idxW 2 a1 x3 (fun x5 => loadNW 2 x5 (fun x6 => newW #[(Value.int .i64 0), (Value.int .u64 0)] (fun x7 => storeW 2 x7 x6 (fun _ => addW 0 x7 (fun x9 => load1W x9 (fun x10 => addW 1 x7 (fun x11 => load1W x11 (fun x12 => CP Tryz.prog Fn.writes_Writes_Put [a0, x10, x12] (fun x13 => binIntW .neq x13 (Value.int .i64 0) (fun x14 => condP x14 (nilW a0 (fun x15 => addW 1 x15 (fun x16 => storeW 1 x16 x1 (fun _ => K x13)))) (binIntW .add x3 (Value.int .i64 1) (fun x18 => J1 x18))))))))))))) (K (Value.int .i64 0))))))

/-- writes_Writes_All -/
def S_writes_Writes_All (a0 : Value) (K : KV) : World → Prop :=
  nilW a0 (fun x1 => addW 1 x1 (fun x2 => load1W x2 (fun x3 => CP Tryz.prog Fn.slices_Clone_api_Cell_api_Cell [x3] (fun x4 => K x4))))

/-- slices_Sort_int_int -/
def S_slices_Sort_int_int (a0 : Value) (K : KV) : World → Prop :=
  lenW a0 (fun x1 => convW .u64 x1 (fun x2 => CP Tryz.prog Fn.math_bits_Len [x2] (fun x3 => CP Tryz.prog Fn.slices_pdqsortOrdered_int [a0, (Value.int .i64 0), x1, x3] (fun x4 => K (Value.tuple #[])))))

/-- fetch_Fetch_End -/
def S_fetch_Fetch_End (a0 : Value) (K : KV) : World → Prop :=
  nilW a0 (fun x1 => addW 0 x1 (fun x2 => CP Tryz.prog Fn.patience_Patience_End [x2] (fun x3 => K x3)))

/-- reads_Reads_Add -/
def S_reads_Reads_Add (a0 a1 : Value) (K : KV) : World → Prop :=
  boxW a1 (fun x1 => addW 0 x1 (fun x2 => load1W x2 (fun x3 => binIntW .lss x3 (Value.int .i64 0) (fun x4 => gW x4 false (fun K => addW 0 x1 K) (fun x5 => gW x4 false (fun K => load1W x5 K) (fun x6 => gW x4 false (fun K => binIntW .geq x6 (Value.int .i64 16) K) (fun x7 => pickW x4 (Value.bool true) x7 (fun x8 => gW x8 false (fun K => addW 1 x1 K) (fun x9 => gW x8 false (fun K => load1W x9 K) (fun x10 => gW x8 false (fun K => binIntW .geq x10 (Value.int .u64 4611686018427387904) K) (fun x11 => pickW x8 (Value.bool true) x11 (fun x12 => condP x12 (K (Value.int .i64 1)) (addW 0 x1 (fun x13 => load1W x13 (fun x14 => CP Tryz.prog Fn.reads_Reads_Get [a0, x14] (fun x15 => extractW 0 x15 (fun x16 => extractW 1 x15 (fun x17 => condP x17 (addW 1 x1 (fun x18 => load1W x18 (fun x19 => binIntW .neq x16 x19 (fun x20 => condP x20 (K (Value.int .i64 14)) (K (Value.int .i64 0)))))) (drewW (nilW a0 (fun x21 => addW 1 x21 (fun x22 => load1W x22 (fun x23 => lenW x23 (fun x24 => nilW a0 (fun x25 => addW 0 x25 (fun x26 => load1W x26 (fun x27 => binIntW .eql x24 x27 (fun x28 => condP x28 (K (Value.int .i64 5)) (drewW (nilW a0 (fun x29 => addW 1 x29 (fun x30 => load1W x30 (fun x31 => loadNW 2 x1 (fun x32 => buildSliceW [(Value.int .i64 0), (Value.int .u64 0)] 1 [(0, 2, x32)] (fun x33 => andP (andP (trueP) (andP (load1W x30 (fun v => eqP v x31)) (trueP))) (appendW 2 16 x31 x33 (fun x34 => andP (andP (trueP) (trueP)) (nilW a0 (fun x35 => addW 1 x35 (fun x36 => storeW 1 x36 x34 (fun _ => andP (trueP) (K (Value.int .i64 0)))))))))))))))))))))))))))))))))))))))))))

/-- fetch_Fetch_Seen -/
def S_fetch_Fetch_Seen (a0 : Value) (K : KV) : World → Prop :=
  newW #[(Value.int .i64 0), (Value.int .u64 0)] (fun x1 => CP Tryz.prog Fn.fetch_Fetch_End [a0] (fun x2 => binIntW .neq x2 (Value.int .i64 2) (fun x3 => condP x3 (buildW [(Value.int .i64 0), (Value.int .u64 0)] [] (fun x4 => storeW 2 x1 x4 (fun _ => loadNW 2 x1 (fun x6 => K x6)))) (drewW (nilW a0 (fun x7 => addW 6 x7 (fun x8 => load1W x8 (fun x9 => nilW a0 (fun x10 => addW 9 x10 (fun x11 => addW 0 x11 (fun x12 => load1W x12 (fun x13 => buildW [(Value.int .i64 0), (Value.int .u64 0)] [(0, 1, x9), (1, 1, x13)] (fun x14 => storeW 2 x1 x14 (fun _ => andP (andP (trueP) (andP (trueP) (trueP))) (loadNW 2 x1 (fun x16 => K x16))))))))))))))))

/-- view_View_Know -/
def S_view_View_Know (a0 a1 a2 : Value) (K : KV) : World → Prop :=
  CP Tryz.prog Fn.view_View_is [a0, a1] (fun x1 => notW x1 (fun x2 => condP x2 (K (Value.int .i64 2)) (nilW a0 (fun x3 => addW 0 x3 (fun x4 => load1W x4 (fun x5 => idxW 2 x5 a1 (fun x6 => loadNW 2 x6 (fun x7 => newW #[(Value.int .u64 0), (Value.bool false)] (fun x8 => storeW 2 x8 x7 (fun _ => addW 1 x8 (fun x10 => load1W x10 (fun x11 => condP x11 (addW 0 x8 (fun x12 => load1W x12 (fun x13 => binIntW .neq x13 a2 (fun x14 => condP x14 (K (Value.int .i64 14)) (K (Value.int .i64 0)))))) (nilW a0 (fun x15 => addW 0 x15 (fun x16 => load1W x16 (fun x17 => buildW [(Value.int .u64 0), (Value.bool false)] [(0, 1, a2), (1, 1, (Value.bool true))] (fun x18 => idxW 2 x17 a1 (fun x19 => storeW 2 x19 x18 (fun _ => nilW a0 (fun x21 => addW 1 x21 (fun x22 => load1W x22 (fun x23 => buildSliceW [(Value.int .i64 0)] 1 [(0, 1, a1)] (fun x24 => appendW 1 8 x23 x24 (fun x25 => nilW a0 (fun x26 => addW 1 x26 (fun x27 => storeW 1 x27 x25 (fun _ => K (Value.int .i64 0))))))))))))))))))))))))))))

/-- fetch_Fetch_Word -/
def S_fetch_Fetch_Word (a0 : Value) (K : KV) : World → Prop :=
  CP Tryz.prog Fn.fetch_Fetch_End [a0] (fun x1 => binIntW .neq x1 (Value.int .i64 2) (fun x2 => condP x2 (K (Value.int .u64 0)) (nilW a0 (fun x3 => addW 12 x3 (fun x4 => load1W x4 (fun x5 => K x5))))))

/-- extend_Extend_End -/
def S_extend_Extend_End (a0 : Value) (K : KV) : World → Prop :=
  nilW a0 (fun x1 => addW 0 x1 (fun x2 => CP Tryz.prog Fn.patience_Patience_End [x2] (fun x3 => K x3)))

/-- patience_Patience_Err -/
def S_patience_Patience_Err (a0 : Value) (K : KV) : World → Prop :=
  nilW a0 (fun x1 => addW 4 x1 (fun x2 => load1W x2 (fun x3 => K x3)))

/-- slices_Clone_any_any -/
def S_slices_Clone_any_any (a0 : Value) (K : KV) : World → Prop :=
  eqNilSliceW .eql a0 (Value.slice none 0 0) (fun x1 => condP x1 (K (Value.slice none 0 0)) (buildSliceW [Value.nilIface] 0 [] (fun x2 => appendW 1 16 x2 a0 (fun x3 => K x3))))

/-- strconv_FormatUint -/
def S_strconv_FormatUint (a0 a1 : Value) (K : KV) : World → Prop :=
  CP Tryz.prog Fn.internal_strconv_FormatUint [a0, a1] (fun x1 => K x1)

/-- levels_fresh -/
def S_levels_fresh (K : KV) : World → Prop :=
  CP Tryz.prog Fn.writes_New [(Value.int .i64 96)] (fun x1 => buildW [(Value.pointer none), (Value.slice none 0 0)] [(0, 1, x1)] (fun x2 => boxW x2 (fun x3 => K x3)))

/-- code_May -/
def S_code_May (a0 : Value) (K : KV) : World → Prop :=
  boxW a0 (fun x1 => addW 0 x1 (fun x2 => load1W x2 (fun x3 => CP Tryz.prog Fn.code_fields [x3] (fun x4 => extractW 0 x4 (fun x5 => extractW 1 x4 (fun x6 => extractW 2 x4 (fun x7 => newW #[(Value.int .i64 0), (Value.int .i64 0)] (fun x8 => newW #[(Value.int .i64 0), (Value.int .i64 0)] (fun x9 => newW #[(Value.int .i64 0), (Value.int .i64 0)] (fun x10 => storeW 2 x8 x5 (fun _ => storeW 2 x9 x6 (fun _ => storeW 2 x10 x7 (fun _ => addW 0 x1 (fun x14 => load1W x14 (fun x15 => CP Tryz.prog Fn.code_Name [x15] (fun x16 => eqStrW .neq x16 (strV []) (fun x17 => gW x17 true (fun K => loadNW 2 x8 K) (fun x18 => gW x17 true (fun K => addW 1 x1 K) (fun x19 => gW x17 true (fun K => load1W x19 K) (fun x20 => gW x17 true (fun K => CP Tryz.prog Fn.code_field_fits [x18, x20] K) (fun x21 => pickW x17 x21 (Value.bool false) (fun x22 => gW x22 true (fun K => loadNW 2 x9 K) (fun x23 => gW x22 true (fun K => addW 2 x1 K) (fun x24 => gW x22 true (fun K => load1W x24 K) (fun x25 => gW x22 true (fun K => CP Tryz.prog Fn.code_field_fits [x23, x25] K) (fun x26 => pickW x22 x26 (Value.bool false) (fun x27 => gW x27 true (fun K => loadNW 2 x10 K) (fun x28 => gW x27 true (fun K => addW 3 x1 K) (fun x29 => gW x27 true (fun K => load1W x29 K) (fun x30 => gW x27 true (fun K => CP Tryz.prog Fn.code_field_fits [x28, x30] K) (fun x31 => pickW x27 x31 (Value.bool false) (fun x32 => gW x32 true (fun K => addW 4 x1 K) (fun x33 => gW x32 true (fun K => load1W x33 K) (fun x34 => gW x32 true (fun K => binIntW .eql x34 (Value.int .u64 0) K) (fun x35 => gW x32 true (fun K => K x35) (fun x36 => gW x36 false (fun K => addW 0 x1 K) (fun x37 => gW x36 false (fun K => load1W x37 K) (fun x38 => gW x36 false (fun K => binIntW .eql x38 (Value.int .i64 1) K) (fun x39 => gW x32 true (fun K => pickW x36 (Value.bool true) x39 K) (fun x40 => pickW x32 x40 (Value.bool false) (fun x41 => K x41)))))))))))))))))))))))))))))))))))))))))

/-- check_begins -/
def S_check_begins (a0 : Value) (K : KV) : World → Prop :=
  binIntW .eql a0 (Value.int .i64 14) (fun x1 => gW x1 false (fun K => K a0) (fun x2 => gW x1 false (fun K => binIntW .eql x2 (Value.int .i64 17) K) (fun x3 => pickW x1 (Value.bool true) x3 (fun x4 => K x4))))

/-- code_Jumps -/
def S_code_Jumps (a0 : Value) (K : KV) : World → Prop :=
  binIntW .eql a0 (Value.int .i64 12) (fun x1 => gW x1 false (fun K => K a0) (fun x2 => gW x1 false (fun K => binIntW .eql x2 (Value.int .i64 13) K) (fun x3 => pickW x1 (Value.bool true) x3 (fun x4 => K x4))))

/-- interp_truth -/
def S_interp_truth (a0 : Value) (K : KV) : World → Prop :=
  condP a0 (K (Value.int .u64 1)) (K (Value.int .u64 0))

/-- slate_Slate_AddNum -/
def S_slate_Slate_AddNum (a0 a1 : Value) (K : KV) : World → Prop :=
  ifaceW 22 a1 (fun x1 => CP Tryz.prog Fn.slate_Slate_add [a0, x1] (fun x2 => K x2))

/-- interp_Interp_touch -/
def S_interp_Interp_touch (a0 a1 a2 a3 : Value) (K : KV) : World → Prop :=
  boxW a1 (fun x1 => addW 0 x1 (fun x2 => load1W x2 (fun x3 => binIntW .eql x3 (Value.int .i64 8) (fun x4 => condP x4 (addW 3 x1 (fun x5 => load1W x5 (fun x6 => CP Tryz.prog Fn.interp_place [a3, x6] (fun x7 => extractW 0 x7 (fun x8 => extractW 1 x7 (fun x9 => binIntW .neq x9 (Value.int .i64 0) (fun x10 => condP x10 (K x9) (nilW a0 (fun x11 => addW 1 x11 (fun x12 => load1W x12 (fun x13 => CP Tryz.prog Fn.view_View_Read [x13, x8] (fun x14 => extractW 0 x14 (fun x15 => extractW 1 x14 (fun x16 => binIntW .eql x16 (Value.int .i64 0) (fun x17 => joinW0 (K x16) (fun j1 => condP x17 (nilW a2 (fun x18 => storeW 1 x18 x15 (fun _ => j1))) (j1))))))))))))))))) (binIntW .eql x3 (Value.int .i64 9) (fun x20 => condP x20 (drewW (nilW a2 (fun x21 => load1W x21 (fun x22 => addW 3 x1 (fun x23 => load1W x23 (fun x24 => CP Tryz.prog Fn.interp_place [x22, x24] (fun x25 => andP (andP (trueP) (andP (trueP) (trueP))) (extractW 0 x25 (fun x26 => extractW 1 x25 (fun x27 => binIntW .neq x27 (Value.int .i64 0) (fun x28 => condP x28 (K x27) (nilW a0 (fun x29 => addW 1 x29 (fun x30 => load1W x30 (fun x31 => CP Tryz.prog Fn.view_View_Write [x31, x26, a3] (fun x32 => K x32)))))))))))))))) (binIntW .eql x3 (Value.int .i64 10) (fun x33 => condP x33 (binIntW .geq a3 (Value.int .u64 2147483648) (fun x34 => condP x34 (K (Value.int .i64 3)) (nilW a0 (fun x35 => addW 1 x35 (fun x36 => load1W x36 (fun x37 => convW .i64 a3 (fun x38 => CP Tryz.prog Fn.arena_Alloc [x37, x38] (fun x39 => extractW 0 x39 (fun x40 => extractW 1 x39 (fun x41 => binIntW .eql x41 (Value.int .i64 0) (fun x42 => joinW0 (K x41) (fun j2 => condP x42 (convW .u64 x40 (fun x43 => nilW a2 (fun x44 => storeW 1 x44 x43 (fun _ => j2)))) (j2))))))))))))) (nilW a2 (fun x46 => load1W x46 (fun x47 => binIntW .geq x47 (Value.int .u64 2147483648) (fun x48 => condP x48 (K (Value.int .i64 2)) (drewW (nilW a0 (fun x49 => addW 1 x49 (fun x50 => load1W x50 (fun x51 => nilW a2 (fun x52 => load1W x52 (fun x53 => convW .i64 x53 (fun x54 => CP Tryz.prog Fn.arena_Free [x51, x54] (fun x55 => andP (andP (trueP) (andP (trueP) (trueP))) (K x55))))))))))))))))))))))

/-- view_View_is -/
def S_view_View_is (a0 a1 : Value) (K : KV) : World → Prop :=
  binIntW .geq a1 (Value.int .i64 1) (fun x1 => gW x1 true (fun K => K a1) (fun x2 => gW x1 true (fun K => K a0) (fun x3 => gW x1 true (fun K => nilW x3 K) (fun x4 => gW x1 true (fun K => addW 0 x4 K) (fun x5 => gW x1 true (fun K => load1W x5 K) (fun x6 => gW x1 true (fun K => lenW x6 K) (fun x7 => gW x1 true (fun K => binIntW .lss x2 x7 K) (fun x8 => pickW x1 x8 (Value.bool false) (fun x9 => K x9)))))))))

/-- levels_Levels_Get -/
def S_levels_Levels_Get (a0 a1 : Value) (K : KV) : World → Prop :=
  boxW a1 (fun x1 => newW #[(Value.int .u64 0)] (fun x2 => newW #[(Value.bool false)] (fun x3 => nilW a0 (fun x4 => addW 1 x4 (fun x5 => load1W x5 (fun x6 => CP Tryz.prog Fn.slices_Backward_levels_level_levels_level [x6] (fun x7 => backW Fn.slices_Backward_levels_level_levels_level_1 x7 (fun J R x8 x9 => drewW (nilW x9 (fun x10 => addW 0 x10 (fun x11 => load1W x11 (fun x12 => load1W x1 (fun x13 => CP Tryz.prog Fn.writes_Writes_Get [x12, x13] (fun x14 => andP (andP (trueP) (andP (trueP) (trueP))) (extractW 0 x14 (fun x15 => extractW 1 x14 (fun x16 => condP x16 (storeW 1 x2 x15 (fun _ => storeW 1 x3 (Value.bool true) (fun _ => R))) (J))))))))))) (fun K => storeW 1 x2 (Value.int .u64 0) (fun _ => storeW 1 x3 (Value.bool false) (fun _ => load1W x2 (fun x21 => load1W x3 (fun x22 => K (Value.tuple #[x21, x22])))))) (fun K => load1W x2 (fun x23 => load1W x3 (fun x24 => K (Value.tuple #[x23, x24])))) K)))))))

/-- slices_Backward_levels_level_levels_level_1 -/
def S_slices_Backward_levels_level_levels_level_1 (a0 a1 : Value) (K : KV) : World → Prop :=
  load1W a1 (fun x1 => lenW x1 (fun x2 => binIntW .sub x2 (Value.int .i64 1) (fun x3 => loopW1 x3 (fun J1 x4 => binIntW .geq x4 (Value.int .i64 0) (fun x5 => condP x5 (load1W a1 (fun x6 => idxW 1 x6 x4 (fun x7 => load1W x7 (fun x8 => dynW Tryz.prog a0 [x4, x8] (fun x9 => notW x9 (fun x10 => condP x10 (K (Value.tuple #[])) (binIntW .sub x4 (Value.int .i64 1) (fun x11 => J1 x11)))))))) (K (Value.tuple #[])))))))

/-- writes_Writes_Put -/
def S_writes_Writes_Put (a0 a1 a2 : Value) (K : KV) : World → Prop :=
  binIntW .lss a1 (Value.int .i64 1) (fun x1 => gW x1 false (fun K => K a1) (fun x2 => gW x1 false (fun K => binIntW .geq x2 (Value.int .i64 256) K) (fun x3 => pickW x1 (Value.bool true) x3 (fun x4 => condP x4 (K (Value.int .i64 2)) (CP Tryz.prog Fn.writes_Writes_find [a0, a1] (fun x5 => binIntW .geq x5 (Value.int .i64 0) (fun x6 => condP x6 (nilW a0 (fun x7 => addW 1 x7 (fun x8 => load1W x8 (fun x9 => idxW 2 x9 x5 (fun x10 => addW 1 x10 (fun x11 => storeW 1 x11 a2 (fun _ => K (Value.int .i64 0)))))))) (drewW (nilW a0 (fun x13 => addW 1 x13 (fun x14 => load1W x14 (fun x15 => lenW x15 (fun x16 => nilW a0 (fun x17 => addW 0 x17 (fun x18 => load1W x18 (fun x19 => binIntW .geq x16 x19 (fun x20 => condP x20 (K (Value.int .i64 5)) (nilW a0 (fun x21 => addW 1 x21 (fun x22 => load1W x22 (fun x23 => buildW [(Value.int .i64 0), (Value.int .u64 0)] [(0, 1, a1), (1, 1, a2)] (fun x24 => buildSliceW [(Value.int .i64 0), (Value.int .u64 0)] 1 [(0, 2, x24)] (fun x25 => appendW 2 16 x23 x25 (fun x26 => nilW a0 (fun x27 => addW 1 x27 (fun x28 => storeW 1 x28 x26 (fun _ => K (Value.int .i64 0))))))))))))))))))))))))))))

/-- reads_Reads_Get -/
def S_reads_Reads_Get (a0 a1 : Value) (K : KV) : World → Prop :=
  nilW a0 (fun x1 => addW 1 x1 (fun x2 => load1W x2 (fun x3 => lenW x3 (fun x4 => loopW1 (Value.int .i64 0) (fun J1 x5 => binIntW .lss x5 x4 (fun x6 => condP x6 (idxW 2 x3 x5 (fun x7 => loadNW 2 x7 (fun x8 => newW #[(Value.int .i64 0), (Value.int .u64 0)] (fun x9 => storeW 2 x9 x8 (fun _ => addW 0 x9 (fun x11 => load1W x11 (fun x12 => binIntW .eql x12 a1 (fun x13 => condP x13 (addW 1 x9 (fun x14 => load1W x14 (fun x15 => K (Value.tuple #[x15, (Value.bool true)])))) (binIntW .add x5 (Value.int .i64 1) (fun x16 => J1 x16)))))))))) (K (Value.tuple #[(Value.int .u64 0), (Value.bool false)]))))))))

/-- internal_strconv_FormatUint -/
def S_internal_strconv_FormatUint (a0 a1 : Value) (K : KV) : World → Prop :=
  binIntW .eql a1 (Value.int .i64 10) (fun x1 => condP x1 (binIntW .lss a0 (Value.int .u64 100) (fun x2 => condP x2 (convW .i64 a0 (fun x3 => CP Tryz.prog Fn.internal_strconv_small [x3] (fun x4 => K x4))) (newW #[(Value.int .u8 0), (Value.int .u8 0), (Value.int .u8 0), (Value.int .u8 0), (Value.int .u8 0), (Value.int .u8 0), (Value.int .u8 0), (Value.int .u8 0), (Value.int .u8 0), (Value.int .u8 0), (Value.int .u8 0), (Value.int .u8 0), (Value.int .u8 0), (Value.int .u8 0), (Value.int .u8 0), (Value.int .u8 0), (Value.int .u8 0), (Value.int .u8 0), (Value.int .u8 0), (Value.int .u8 0), (Value.int .u8 0), (Value.int .u8 0), (Value.int .u8 0), (Value.int .u8 0)] (fun x5 => CP Tryz.prog Fn.internal_strconv_numDigits [a0] (fun x6 => falseP))))) (CP Tryz.prog Fn.internal_strconv_formatBits [(Value.slice none 0 0), a0, a1, (Value.bool false), (Value.bool false)] (fun x7 => extractW 0 x7 (fun x8 => extractW 1 x7 (fun x9 => K x9)))))

/-- code_fields -/
def S_code_fields (a0 : Value) (K : KV) : World → Prop :=
  newW #[(Value.int .i64 0), (Value.int .i64 0)] (fun x1 => newW #[(Value.int .i64 0), (Value.int .i64 0)] (fun x2 => newW #[(Value.int .i64 0), (Value.int .i64 0)] (fun x3 => buildW [(Value.int .i64 0), (Value.int .i64 0)] [(1, 1, (Value.int .i64 7))] (fun x4 => newW #[(Value.int .i64 0), (Value.int .i64 0)] (fun x5 => storeW 2 x5 x4 (fun _ => binIntW .eql a0 (Value.int .i64 1) (fun x7 => joinW1 (fun x8 => joinW0 (drewW (loadNW 2 x1 (fun x9 => loadNW 2 x2 (fun x10 => loadNW 2 x3 (fun x11 => storeW 2 x1 x9 (fun _ => andP (andP (loadNW 2 x3 (fun v => eqP v x11)) (andP (loadNW 2 x2 (fun v => eqP v x10)) (andP (trueP) (trueP)))) (storeW 2 x2 x10 (fun _ => andP (andP (loadNW 2 x3 (fun v => eqP v x11)) (andP (trueP) (trueP))) (storeW 2 x3 x11 (fun _ => andP (andP (trueP) (trueP)) (loadNW 2 x1 (fun x15 => loadNW 2 x2 (fun x16 => loadNW 2 x3 (fun x17 => K (Value.tuple #[x15, x16, x17]))))))))))))))) (fun j2 => condP x8 (loadNW 2 x5 (fun x18 => storeW 2 x1 x18 (fun _ => j2))) (binIntW .eql a0 (Value.int .i64 2) (fun x20 => joinW1 (fun x21 => joinW0 (j2) (fun j4 => condP x21 (drewW (loadNW 2 x5 (fun x22 => loadNW 2 x5 (fun x23 => storeW 2 x1 x22 (fun _ => andP (andP (loadNW 2 x5 (fun v => eqP v x23)) (andP (trueP) (trueP))) (storeW 2 x2 x23 (fun _ => andP (andP (trueP) (trueP)) (j4)))))))) (binIntW .eql a0 (Value.int .i64 3) (fun x26 => joinW1 (fun x27 => joinW0 (j4) (fun j6 => condP x27 (drewW (loadNW 2 x5 (fun x28 => loadNW 2 x5 (fun x29 => loadNW 2 x5 (fun x30 => storeW 2 x1 x28 (fun _ => andP (andP (loadNW 2 x5 (fun v => eqP v x30)) (andP (loadNW 2 x5 (fun v => eqP v x29)) (andP (trueP) (trueP)))) (storeW 2 x2 x29 (fun _ => andP (andP (loadNW 2 x5 (fun v => eqP v x30)) (andP (trueP) (trueP))) (storeW 2 x3 x30 (fun _ => andP (andP (trueP) (trueP)) (j6))))))))))) (binIntW .eql a0 (Value.int .i64 8) (fun x34 => joinW1 (fun x35 => joinW0 (j6) (fun j8 => condP x35 (drewW (loadNW 2 x5 (fun x36 => loadNW 2 x5 (fun x37 => buildW [(Value.int .i64 0), (Value.int .i64 0)] [(1, 1, (Value.int .i64 15))] (fun x38 => storeW 2 x1 x36 (fun _ => andP (andP (loadNW 2 x5 (fun v => eqP v x37)) (andP (trueP) (trueP))) (storeW 2 x2 x37 (fun _ => andP (andP (trueP) (trueP)) (storeW 2 x3 x38 (fun _ => andP (trueP) (j8))))))))))) (binIntW .eql a0 (Value.int .i64 12) (fun x42 => joinW0 (j8) (fun j9 => condP x42 (buildW [(Value.int .i64 0), (Value.int .i64 0)] [(1, 1, (Value.int .i64 40))] (fun x43 => storeW 2 x3 x43 (fun _ => j9))) (binIntW .eql a0 (Value.int .i64 13) (fun x45 => joinW0 (j9) (fun j10 => condP x45 (loadNW 2 x5 (fun x46 => buildW [(Value.int .i64 0), (Value.int .i64 0)] [(1, 1, (Value.int .i64 40))] (fun x47 => storeW 2 x1 x46 (fun _ => storeW 2 x3 x47 (fun _ => j10))))) (binIntW .eql a0 (Value.int .i64 23) (fun x50 => joinW0 (j10) (fun j11 => condP x50 (buildW [(Value.int .i64 0), (Value.int .i64 0)] [(0, 1, (Value.int .i64 1)), (1, 1, (Value.int .i64 12))] (fun x51 => buildW [(Value.int .i64 0), (Value.int .i64 0)] [(1, 1, (Value.int .i64 7))] (fun x52 => buildW [(Value.int .i64 0), (Value.int .i64 0)] [(1, 1, (Value.int .i64 6))] (fun x53 => storeW 2 x1 x51 (fun _ => storeW 2 x2 x52 (fun _ => storeW 2 x3 x53 (fun _ => j11))))))) (j11)))))))))))) (fun j7 => condP x34 (j7 x34) (binIntW .eql a0 (Value.int .i64 9) (fun x57 => j7 x57))))))) (fun j5 => condP x26 (j5 x26) (binIntW .eql a0 (Value.int .i64 4) (fun x58 => joinW1 (fun x59 => j5 x59) (fun j12 => condP x58 (j12 x58) (binIntW .eql a0 (Value.int .i64 5) (fun x60 => joinW1 (fun x61 => j12 x61) (fun j13 => condP x60 (j13 x60) (binIntW .eql a0 (Value.int .i64 6) (fun x62 => joinW1 (fun x63 => j13 x63) (fun j14 => condP x62 (j14 x62) (binIntW .eql a0 (Value.int .i64 7) (fun x64 => j14 x64)))))))))))))))) (fun j3 => condP x20 (j3 x20) (binIntW .eql a0 (Value.int .i64 10) (fun x65 => j3 x65))))))) (fun j1 => condP x7 (j1 x7) (binIntW .eql a0 (Value.int .i64 11) (fun x66 => joinW1 (fun x67 => j1 x67) (fun j15 => condP x66 (j15 x66) (binIntW .eql a0 (Value.int .i64 21) (fun x68 => j15 x68)))))))))))))

/-- code_Name -/
def S_code_Name (a0 : Value) (K : KV) : World → Prop :=
  CP Tryz.prog Fn.code_names [] (fun x1 => CP Tryz.prog Fn.code_named [x1, a0] (fun x2 => K x2))

/-- code_field_fits -/
def S_code_field_fits (a0 a1 : Value) (K : KV) : World → Prop :=
  boxW a0 (fun x1 => addW 0 x1 (fun x2 => load1W x2 (fun x3 => binIntW .geq a1 x3 (fun x4 => gW x4 true (fun K => K a1) (fun x5 => gW x4 true (fun K => addW 1 x1 K) (fun x6 => gW x4 true (fun K => load1W x6 K) (fun x7 => gW x4 true (fun K => binIntW .leq x5 x7 K) (fun x8 => pickW x4 x8 (Value.bool false) (fun x9 => K x9)))))))))

/-- slate_Slate_add -/
def S_slate_Slate_add (a0 a1 : Value) (K : KV) : World → Prop :=
  nilW a0 (fun x1 => addW 0 x1 (fun x2 => load1W x2 (fun x3 => lenW x3 (fun x4 => binIntW .geq x4 (Value.int .i64 16) (fun x5 => condP x5 (K (Value.bool false)) (nilW a0 (fun x6 => addW 0 x6 (fun x7 => load1W x7 (fun x8 => buildSliceW [Value.nilIface] 1 [(0, 1, a1)] (fun x9 => appendW 1 16 x8 x9 (fun x10 => nilW a0 (fun x11 => addW 0 x11 (fun x12 => storeW 1 x12 x10 (fun _ => K (Value.bool true)))))))))))))))

/-- interp_place -/
def S_interp_place (a0 a1 : Value) (K : KV) : World → Prop :=
  binIntW .geq a0 (Value.int .u64 2147483648) (fun x1 => gW x1 false (fun K => K a0) (fun x2 => gW x1 false (fun K => convW .i64 x2 K) (fun x3 => gW x1 false (fun K => K a1) (fun x4 => gW x1 false (fun K => binIntW .add x3 x4 K) (fun x5 => gW x1 false (fun K => binIntW .geq x5 (Value.int .i64 2147483648) K) (fun x6 => pickW x1 (Value.bool true) x6 (fun x7 => gW x7 false (fun K => K a0) (fun x8 => gW x7 false (fun K => convW .i64 x8 K) (fun x9 => gW x7 false (fun K => K a1) (fun x10 => gW x7 false (fun K => binIntW .add x9 x10 K) (fun x11 => gW x7 false (fun K => binIntW .lss x11 (Value.int .i64 6) K) (fun x12 => pickW x7 (Value.bool true) x12 (fun x13 => condP x13 (K (Value.tuple #[(Value.int .i64 0), (Value.int .i64 2)])) (convW .i64 a0 (fun x14 => binIntW .add x14 a1 (fun x15 => K (Value.tuple #[x15, (Value.int .i64 0)])))))))))))))))))

/-- view_View_Write -/
def S_view_View_Write (a0 a1 a2 : Value) (K : KV) : World → Prop :=
  CP Tryz.prog Fn.view_View_is [a0, a1] (fun x1 => notW x1 (fun x2 => condP x2 (K (Value.int .i64 2)) (nilW a0 (fun x3 => addW 2 x3 (fun x4 => load1W x4 (fun x5 => CP Tryz.prog Fn.levels_Levels_Put [x5, a1, a2] (fun x6 => K x6)))))))

/-- writes_Writes_Get -/
def S_writes_Writes_Get (a0 a1 : Value) (K : KV) : World → Prop :=
  CP Tryz.prog Fn.writes_Writes_find [a0, a1] (fun x1 => binIntW .geq x1 (Value.int .i64 0) (fun x2 => condP x2 (nilW a0 (fun x3 => addW 1 x3 (fun x4 => load1W x4 (fun x5 => idxW 2 x5 x1 (fun x6 => addW 1 x6 (fun x7 => load1W x7 (fun x8 => K (Value.tuple #[x8, (Value.bool true)])))))))) (K (Value.tuple #[(Value.int .u64 0), (Value.bool false)]))))

/-- levels_Levels_in -/
def S_levels_Levels_in (a0 : Value) (K : KV) : World → Prop :=
  drewW (nilW a0 (fun x1 => addW 1 x1 (fun x2 => load1W x2 (fun x3 => nilW a0 (fun x4 => addW 1 x4 (fun x5 => load1W x5 (fun x6 => lenW x6 (fun x7 => binIntW .sub x7 (Value.int .i64 1) (fun x8 => idxW 1 x3 x8 (fun x9 => load1W x9 (fun x10 => K x10)))))))))))

/-- levels_Levels_Put -/
def S_levels_Levels_Put (a0 a1 a2 : Value) (K : KV) : World → Prop :=
  binIntW .lss a1 (Value.int .i64 1) (fun x1 => gW x1 false (fun K => K a1) (fun x2 => gW x1 false (fun K => binIntW .geq x2 (Value.int .i64 256) K) (fun x3 => pickW x1 (Value.bool true) x3 (fun x4 => condP x4 (K (Value.int .i64 2)) (CP Tryz.prog Fn.levels_Levels_in [a0] (fun x5 => nilW x5 (fun x6 => addW 0 x6 (fun x7 => load1W x7 (fun x8 => CP Tryz.prog Fn.writes_Writes_Get [x8, a1] (fun x9 => extractW 0 x9 (fun x10 => extractW 1 x9 (fun x11 => notW x11 (fun x12 => gW x12 true (fun K => K a0) (fun x13 => gW x12 true (fun K => CP Tryz.prog Fn.levels_Levels_Room [x13] K) (fun x14 => gW x12 true (fun K => binIntW .eql x14 (Value.int .i64 0) K) (fun x15 => pickW x12 x15 (Value.bool false) (fun x16 => condP x16 (K (Value.int .i64 5)) (CP Tryz.prog Fn.writes_Writes_Put [x8, a1, a2] (fun x17 => K x17)))))))))))))))))))

/-- writes_Writes_find -/
def S_writes_Writes_find (a0 a1 : Value) (K : KV) : World → Prop :=
  boxW a1 (fun x1 => nilW a0 (fun x2 => addW 1 x2 (fun x3 => load1W x3 (fun x4 => CP Tryz.prog Fn.slices_IndexFunc_api_Cell_api_Cell [x4, (Value.func (.func Fn.writes_Writes_find_1) #[] #[x1])] (fun x5 => K x5)))))

/-- slices_insertionSortOrdered_int -/
def S_slices_insertionSortOrdered_int (a0 a1 a2 : Value) (K : KV) : World → Prop :=
  binIntW .add a1 (Value.int .i64 1) (fun x1 => loopW1 x1 (fun J1 x2 => binIntW .lss x2 a2 (fun x3 => condP x3 (loopW1 x2 (fun J2 x4 => drewW (binIntW .gtr x4 a1 (fun x5 => gW x5 true (fun K => K a0) (fun x6 => gW x5 true (fun K => K x4) (fun x7 => gW x5 true (fun K => idxW 1 x6 x7 K) (fun x8 => gW x5 true (fun K => load1W x8 K) (fun x9 => gW x5 true (fun K => K a0) (fun x10 => gW x5 true (fun K => K x4) (fun x11 => gW x5 true (fun K => binIntW .sub x11 (Value.int .i64 1) K) (fun x12 => gW x5 true (fun K => idxW 1 x10 x12 K) (fun x13 => gW x5 true (fun K => load1W x13 K) (fun x14 => gW x5 true (fun K => CP Tryz.prog Fn.cmp_Less_int [x9, x14] K) (fun x15 => andP (andP (trueP) (andP (trueP) (trueP))) (pickW x5 x15 (Value.bool false) (fun x16 => condP x16 (drewW (binIntW .sub x4 (Value.int .i64 1) (fun x17 => binIntW .sub x4 (Value.int .i64 1) (fun x18 => idxW 1 a0 x18 (fun x19 => load1W x19 (fun x20 => idxW 1 a0 x4 (fun x21 => load1W x21 (fun x22 => idxW 1 a0 x4 (fun x23 => storeW 1 x23 x20 (fun _ => andP (andP (trueP) (andP (trueP) (trueP))) (idxW 1 a0 x17 (fun x25 => storeW 1 x25 x22 (fun _ => andP (trueP) (binIntW .sub x4 (Value.int .i64 1) (fun x27 => J2 x27))))))))))))))) (binIntW .add x2 (Value.int .i64 1) (fun x28 => J1 x28)))))))))))))))))) (K (Value.tuple #[])))))

/-- cmp_Less_int -/
def S_cmp_Less_int (a0 a1 : Value) (K : KV) : World → Prop :=
  CP Tryz.prog Fn.cmp_isNaN_int [a0] (fun x1 => gW x1 true (fun K => K a1) (fun x2 => gW x1 true (fun K => CP Tryz.prog Fn.cmp_isNaN_int [x2] K) (fun x3 => gW x1 true (fun K => notW x3 K) (fun x4 => pickW x1 x4 (Value.bool false) (fun x5 => gW x5 false (fun K => K a0) (fun x6 => gW x5 false (fun K => K a1) (fun x7 => gW x5 false (fun K => binIntW .lss x6 x7 K) (fun x8 => pickW x5 (Value.bool true) x8 (fun x9 => K x9)))))))))

/-- internal_strconv_small -/
def S_internal_strconv_small (a0 : Value) (K : KV) : World → Prop :=
  binIntW .lss a0 (Value.int .i64 10) (fun x1 => condP x1 (binIntW .add a0 (Value.int .i64 1) (fun x2 => sliceSW (strV [48, 49, 50, 51, 52, 53, 54, 55, 56, 57, 97, 98, 99, 100, 101, 102, 103, 104, 105, 106, 107, 108, 109, 110, 111, 112, 113, 114, 115, 116, 117, 118, 119, 120, 121, 122]) (some a0) (some x2) (fun x3 => K x3))) (binIntW .mul a0 (Value.int .i64 2) (fun x4 => binIntW .mul a0 (Value.int .i64 2) (fun x5 => binIntW .add x5 (Value.int .i64 2) (fun x6 => sliceSW (strV [48, 48, 48, 49, 48, 50, 48, 51, 48, 52, 48, 53, 48, 54, 48, 55, 48, 56, 48, 57, 49, 48, 49, 49, 49, 50, 49, 51, 49, 52, 49, 53, 49, 54, 49, 55, 49, 56, 49, 57, 50, 48, 50, 49, 50, 50, 50, 51, 50, 52, 50, 53, 50, 54, 50, 55, 50, 56, 50, 57, 51, 48, 51, 49, 51, 50, 51, 51, 51, 52, 51, 53, 51, 54, 51, 55, 51, 56, 51, 57, 52, 48, 52, 49, 52, 50, 52, 51, 52, 52, 52, 53, 52, 54, 52, 55, 52, 56, 52, 57, 53, 48, 53, 49, 53, 50, 53, 51, 53, 52, 53, 53, 53, 54, 53, 55, 53, 56, 53, 57, 54, 48, 54, 49, 54, 50, 54, 51, 54, 52, 54, 53, 54, 54, 54, 55, 54, 56, 54, 57, 55, 48, 55, 49, 55, 50, 55, 51, 55, 52, 55, 53, 55, 54, 55, 55, 55, 56, 55, 57, 56, 48, 56, 49, 56, 50, 56, 51, 56, 52, 56, 53, 56, 54, 56, 55, 56, 56, 56, 57, 57, 48, 57, 49, 57, 50, 57, 51, 57, 52, 57, 53, 57, 54, 57, 55, 57, 56, 57, 57]) (some x4) (some x6) (fun x7 => K x7))))))

/-- code_named -/
def S_code_named (a0 a1 : Value) (K : KV) : World → Prop :=
  binIntW .lss a1 (Value.int .i64 0) (fun x1 => gW x1 false (fun K => K a1) (fun x2 => gW x1 false (fun K => K a0) (fun x3 => gW x1 false (fun K => lenW x3 K) (fun x4 => gW x1 false (fun K => binIntW .geq x2 x4 K) (fun x5 => pickW x1 (Value.bool true) x5 (fun x6 => condP x6 (K (strV [])) (idxW 1 a0 a1 (fun x7 => load1W x7 (fun x8 => K x8)))))))))

/-- code_names -/
def S_code_names (K : KV) : World → Prop :=
  buildSliceW [(strV [])] 24 [(0, 1, (strV [])), (1, 1, (strV [115, 101, 116])), (2, 1, (strV [109, 111, 118, 101])), (3, 1, (strV [97, 100, 100])), (4, 1, (strV [115, 117, 98])), (5, 1, (strV [109, 117, 108])), (6, 1, (strV [108, 101, 115, 115])), (7, 1, (strV [101, 113, 117, 97, 108])), (8, 1, (strV [108, 111, 97, 100])), (9, 1, (strV [115, 116, 111, 114, 101])), (10, 1, (strV [97, 108, 108, 111, 99])), (11, 1, (strV [102, 114, 101, 101])), (12, 1, (strV [106, 117, 109, 112])), (13, 1, (strV [122, 101, 114, 111])), (14, 1, (strV [111, 112, 101, 110])), (15, 1, (strV [99, 108, 111, 115, 101])), (16, 1, (strV [117, 110, 100, 111])), (17, 1, (strV [101, 105, 116, 104, 101, 114])), (18, 1, (strV [111, 114])), (19, 1, (strV [100, 111, 110, 101])), (20, 1, (strV [114, 101, 116, 114, 121])), (21, 1, (strV [101, 109, 105, 116])), (22, 1, (strV [102, 97, 105, 108])), (23, 1, (strV [99, 97, 108, 108]))] (fun x1 => K x1)

/-- levels_Levels_Room -/
def S_levels_Levels_Room (a0 : Value) (K : KV) : World → Prop :=
  nilW a0 (fun x1 => addW 0 x1 (fun x2 => load1W x2 (fun x3 => nilW a0 (fun x4 => addW 1 x4 (fun x5 => load1W x5 (fun x6 => lenW x6 (fun x7 => loopW2 x3 (Value.int .i64 0) (fun J1 x8 x9 => binIntW .lss x9 x7 (fun x10 => condP x10 (idxW 1 x6 x9 (fun x11 => load1W x11 (fun x12 => nilW x12 (fun x13 => addW 0 x13 (fun x14 => load1W x14 (fun x15 => CP Tryz.prog Fn.writes_Writes_Len [x15] (fun x16 => binIntW .sub x8 x16 (fun x17 => binIntW .add x9 (Value.int .i64 1) (fun x18 => J1 x17 x18))))))))) (K x8))))))))))

/-- slices_IndexFunc_api_Cell_api_Cell -/
def S_slices_IndexFunc_api_Cell_api_Cell (a0 a1 : Value) (K : KV) : World → Prop :=
  lenW a0 (fun x1 => loopW1 (Value.int .i64 0) (fun J1 x2 => binIntW .lss x2 x1 (fun x3 => condP x3 (idxW 2 a0 x2 (fun x4 => loadNW 2 x4 (fun x5 => dynW Tryz.prog a1 [x5] (fun x6 => condP x6 (K x2) (binIntW .add x2 (Value.int .i64 1) (fun x7 => J1 x7)))))) (K (Value.int .i64 (-1))))))

/-- writes_Writes_find_1 -/
def S_writes_Writes_find_1 (a0 a1 : Value) (K : KV) : World → Prop :=
  boxW a0 (fun x1 => addW 0 x1 (fun x2 => load1W x2 (fun x3 => load1W a1 (fun x4 => binIntW .eql x3 x4 (fun x5 => K x5)))))

/-- cmp_isNaN_int -/
def S_cmp_isNaN_int (a0 : Value) (K : KV) : World → Prop :=
  binIntW .neq a0 a0 (fun x1 => K x1)

/-- writes_Writes_Len -/
def S_writes_Writes_Len (a0 : Value) (K : KV) : World → Prop :=
  nilW a0 (fun x1 => addW 1 x1 (fun x2 => load1W x2 (fun x3 => lenW x3 (fun x4 => K x4))))

/-- fetch_Fetch_By -/
def S_fetch_Fetch_By (a0 : Value) (K : KV) : World → Prop :=
  nilW a0 (fun x1 => addW 0 x1 (fun x2 => CP Tryz.prog Fn.patience_Patience_By [x2] (fun x3 => K x3)))

/-- fetch_Fetch_Next -/
def S_fetch_Fetch_Next (a0 : Value) (K : KV) : World → Prop :=
  newW #[(Value.int .i64 0), (Value.int .i64 0), (Value.int .u64 0), (Value.int .u64 0), (Value.int .u64 0), (Value.bool false), (Value.int .i64 0), (Value.int .u64 0), (Value.bool false), (Value.int .i64 0)] (fun x1 => nilW a0 (fun x2 => addW 0 x2 (fun x3 => CP Tryz.prog Fn.patience_Patience_End [x3] (fun x4 => binIntW .neq x4 (Value.int .i64 0) (fun x5 => condP x5 (buildW [(Value.int .i64 0), (Value.int .i64 0), (Value.int .u64 0), (Value.int .u64 0), (Value.int .u64 0), (Value.bool false), (Value.int .i64 0), (Value.int .u64 0), (Value.bool false), (Value.int .i64 0)] [] (fun x6 => storeW 10 x1 x6 (fun _ => loadNW 10 x1 (fun x8 => K (Value.tuple #[x8, (Value.bool false)]))))) (nilW a0 (fun x9 => addW 8 x9 (fun x10 => load1W x10 (fun x11 => binIntW .eql x11 (Value.int .i64 1) (fun x12 => condP x12 (nilW a0 (fun x13 => addW 5 x13 (fun x14 => load1W x14 (fun x15 => buildW [(Value.int .i64 0), (Value.int .i64 0), (Value.int .u64 0), (Value.int .u64 0), (Value.int .u64 0), (Value.bool false), (Value.int .i64 0), (Value.int .u64 0), (Value.bool false), (Value.int .i64 0)] [(0, 1, (Value.int .i64 1)), (1, 1, x15)] (fun x16 => storeW 10 x1 x16 (fun _ => loadNW 10 x1 (fun x18 => K (Value.tuple #[x18, (Value.bool true)])))))))) (nilW a0 (fun x19 => addW 6 x19 (fun x20 => load1W x20 (fun x21 => buildW [(Value.int .i64 0), (Value.int .i64 0), (Value.int .u64 0), (Value.int .u64 0), (Value.int .u64 0), (Value.bool false), (Value.int .i64 0), (Value.int .u64 0), (Value.bool false), (Value.int .i64 0)] [(0, 1, (Value.int .i64 3)), (1, 1, x21)] (fun x22 => storeW 10 x1 x22 (fun _ => loadNW 10 x1 (fun x24 => K (Value.tuple #[x24, (Value.bool true)]))))))))))))))))))

/-- fetch_Fetch_Tell -/
def S_fetch_Fetch_Tell (a0 a1 : Value) (K : KV) : World → Prop :=
  boxW a1 (fun x1 => drewW (nilW a0 (fun x2 => addW 0 x2 (fun x3 => loadNW 6 x1 (fun x4 => CP Tryz.prog Fn.patience_Patience_Stopped [x3, x4] (fun x5 => andP (andP (trueP) (trueP)) (joinW0 (K (Value.tuple #[])) (fun j1 => condP x5 (j1) (nilW a0 (fun x6 => addW 8 x6 (fun x7 => load1W x7 (fun x8 => binIntW .eql x8 (Value.int .i64 1) (fun x9 => joinW0 (j1) (fun j2 => condP x9 (addW 0 x1 (fun x10 => load1W x10 (fun x11 => nilW a0 (fun x12 => addW 12 x12 (fun x13 => storeW 1 x13 x11 (fun _ => nilW a0 (fun x15 => addW 8 x15 (fun x16 => storeW 1 x16 (Value.int .i64 2) (fun _ => j2))))))))) (drewW (nilW a0 (fun x18 => addW 8 x18 (fun x19 => load1W x19 (fun x20 => binIntW .eql x20 (Value.int .i64 2) (fun x21 => gW x21 true (fun K => addW 1 x1 K) (fun x22 => gW x21 true (fun K => loadNW 3 x22 K) (fun x23 => gW x21 true (fun K => K a0) (fun x24 => gW x21 true (fun K => nilW x24 K) (fun x25 => gW x21 true (fun K => addW 9 x25 K) (fun x26 => gW x21 true (fun K => loadNW 3 x26 K) (fun x27 => gW x21 true (fun K => eqAggW [.i .u64, .b, .i .i64] .eql x23 x27 K) (fun x28 => pickW x21 x28 (Value.bool false) (fun x29 => joinW0 (j2) (fun j3 => condP x29 (nilW a0 (fun x30 => addW 0 x30 (fun x31 => CP Tryz.prog Fn.patience_Patience_Stop [x31, (Value.int .i64 2), (Value.int .i64 0), (Value.int .i64 (-1))] (fun x32 => j3)))) (addW 1 x1 (fun x33 => loadNW 3 x33 (fun x34 => CP Tryz.prog Fn.fetch_Fetch_found [a0, x34] (fun x35 => j3)))))))))))))))))))))))))))))))))

/-- patience_Patience_By -/
def S_patience_Patience_By (a0 : Value) (K : KV) : World → Prop :=
  nilW a0 (fun x1 => addW 3 x1 (fun x2 => load1W x2 (fun x3 => K x3)))

/-- patience_Patience_Stopped -/
def S_patience_Patience_Stopped (a0 a1 : Value) (K : KV) : World → Prop :=
  boxW a1 (fun x1 => nilW a0 (fun x2 => addW 2 x2 (fun x3 => load1W x3 (fun x4 => binIntW .eql x4 (Value.int .i64 0) (fun x5 => gW x5 true (fun K => addW 5 x1 K) (fun x6 => gW x5 true (fun K => load1W x6 K) (fun x7 => gW x5 true (fun K => binIntW .neq x7 (Value.int .i64 0) K) (fun x8 => pickW x5 x8 (Value.bool false) (fun x9 => joinW0 (nilW a0 (fun x10 => addW 2 x10 (fun x11 => load1W x11 (fun x12 => binIntW .neq x12 (Value.int .i64 0) (fun x13 => K x13))))) (fun j1 => condP x9 (addW 5 x1 (fun x14 => load1W x14 (fun x15 => CP Tryz.prog Fn.patience_Patience_Stop [a0, (Value.int .i64 4), x15, (Value.int .i64 (-1))] (fun x16 => j1)))) (j1)))))))))))

/-- patience_Patience_Stop -/
def S_patience_Patience_Stop (a0 a1 a2 a3 : Value) (K : KV) : World → Prop :=
  nilW a0 (fun x1 => addW 2 x1 (fun x2 => storeW 1 x2 a1 (fun _ => nilW a0 (fun x4 => addW 4 x4 (fun x5 => storeW 1 x5 a2 (fun _ => nilW a0 (fun x7 => addW 3 x7 (fun x8 => storeW 1 x8 a3 (fun _ => K (Value.tuple #[]))))))))))

/-- fetch_Fetch_found -/
def S_fetch_Fetch_found (a0 a1 : Value) (K : KV) : World → Prop :=
  boxW a1 (fun x1 => nilW a0 (fun x2 => addW 8 x2 (fun x3 => storeW 1 x3 (Value.int .i64 0) (fun _ => addW 1 x1 (fun x5 => load1W x5 (fun x6 => joinW0 (K (Value.tuple #[])) (fun j1 => condP x6 (drewW (nilW a0 (fun x7 => addW 0 x7 (fun x8 => loadNW 3 x1 (fun x9 => CP Tryz.prog Fn.patience_Patience_Waits [x8, x9] (fun x10 => andP (andP (trueP) (trueP)) (notW x10 (fun x11 => joinW0 (j1) (fun j2 => condP x11 (drewW (nilW a0 (fun x12 => addW 0 x12 (fun x13 => addW 2 x1 (fun x14 => load1W x14 (fun x15 => CP Tryz.prog Fn.patience_Patience_Stop [x13, (Value.int .i64 5), (Value.int .i64 0), x15] (fun x16 => andP (andP (trueP) (trueP)) (j2)))))))) (j2)))))))))) (drewW (addW 0 x1 (fun x17 => load1W x17 (fun x18 => nilW a0 (fun x19 => addW 7 x19 (fun x20 => load1W x20 (fun x21 => binIntW .gtr x18 x21 (fun x22 => joinW0 (j1) (fun j3 => condP x22 (nilW a0 (fun x23 => addW 0 x23 (fun x24 => CP Tryz.prog Fn.patience_Patience_Stop [x24, (Value.int .i64 6), (Value.int .i64 0), (Value.int .i64 (-1))] (fun x25 => j3)))) (loadNW 3 x1 (fun x26 => nilW a0 (fun x27 => addW 9 x27 (fun x28 => storeW 3 x28 x26 (fun _ => nilW a0 (fun x30 => addW 8 x30 (fun x31 => storeW 1 x31 (Value.int .i64 1) (fun _ => j3))))))))))))))))))))))))

/-- patience_Patience_Waits -/
def S_patience_Patience_Waits (a0 a1 : Value) (K : KV) : World → Prop :=
  boxW a1 (fun x1 => drewW (addW 2 x1 (fun x2 => load1W x2 (fun x3 => nilW a0 (fun x4 => addW 0 x4 (fun x5 => load1W x5 (fun x6 => binIntW .gtr x3 x6 (fun x7 => condP x7 (K (Value.bool true)) (nilW a0 (fun x8 => addW 1 x8 (fun x9 => load1W x9 (fun x10 => binIntW .sub x10 (Value.int .i64 1) (fun x11 => nilW a0 (fun x12 => addW 1 x12 (fun x13 => storeW 1 x13 x11 (fun _ => nilW a0 (fun x15 => addW 1 x15 (fun x16 => load1W x16 (fun x17 => binIntW .geq x17 (Value.int .i64 0) (fun x18 => K x18))))))))))))))))))))

/-- extend_Extend_By -/
def S_extend_Extend_By (a0 : Value) (K : KV) : World → Prop :=
  nilW a0 (fun x1 => addW 0 x1 (fun x2 => CP Tryz.prog Fn.patience_Patience_By [x2] (fun x3 => K x3)))

/-- extend_Extend_Next -/
def S_extend_Extend_Next (a0 : Value) (K : KV) : World → Prop :=
  newW #[(Value.int .i64 0), (Value.int .i64 0), (Value.int .u64 0), (Value.int .u64 0), (Value.int .u64 0), (Value.bool false), (Value.int .i64 0), (Value.int .u64 0), (Value.bool false), (Value.int .i64 0)] (fun x1 => nilW a0 (fun x2 => addW 0 x2 (fun x3 => CP Tryz.prog Fn.patience_Patience_End [x3] (fun x4 => binIntW .neq x4 (Value.int .i64 0) (fun x5 => condP x5 (buildW [(Value.int .i64 0), (Value.int .i64 0), (Value.int .u64 0), (Value.int .u64 0), (Value.int .u64 0), (Value.bool false), (Value.int .i64 0), (Value.int .u64 0), (Value.bool false), (Value.int .i64 0)] [] (fun x6 => storeW 10 x1 x6 (fun _ => loadNW 10 x1 (fun x8 => K (Value.tuple #[x8, (Value.bool false)]))))) (nilW a0 (fun x9 => addW 6 x9 (fun x10 => load1W x10 (fun x11 => notW x11 (fun x12 => condP x12 (buildW [(Value.int .i64 0), (Value.int .i64 0), (Value.int .u64 0), (Value.int .u64 0), (Value.int .u64 0), (Value.bool false), (Value.int .i64 0), (Value.int .u64 0), (Value.bool false), (Value.int .i64 0)] [(0, 1, (Value.int .i64 6))] (fun x13 => storeW 10 x1 x13 (fun _ => loadNW 10 x1 (fun x15 => K (Value.tuple #[x15, (Value.bool true)]))))) (drewW (nilW a0 (fun x16 => addW 5 x16 (fun x17 => load1W x17 (fun x18 => nilW a0 (fun x19 => addW 7 x19 (fun x20 => load1W x20 (fun x21 => idxW 2 x18 x21 (fun x22 => addW 0 x22 (fun x23 => load1W x23 (fun x24 => buildW [(Value.int .i64 0), (Value.int .i64 0), (Value.int .u64 0), (Value.int .u64 0), (Value.int .u64 0), (Value.bool false), (Value.int .i64 0), (Value.int .u64 0), (Value.bool false), (Value.int .i64 0)] [(0, 1, (Value.int .i64 3)), (1, 1, x24)] (fun x25 => storeW 10 x1 x25 (fun _ => andP (andP (trueP) (andP (trueP) (andP (trueP) (trueP)))) (loadNW 10 x1 (fun x27 => K (Value.tuple #[x27, (Value.bool true)]))))))))))))))))))))))))))

/-- extend_Extend_Tell -/
def S_extend_Extend_Tell (a0 a1 : Value) (K : KV) : World → Prop :=
  boxW a1 (fun x1 => drewW (nilW a0 (fun x2 => addW 0 x2 (fun x3 => loadNW 6 x1 (fun x4 => CP Tryz.prog Fn.patience_Patience_Stopped [x3, x4] (fun x5 => andP (andP (trueP) (trueP)) (condP x5 (K (Value.tuple #[])) (nilW a0 (fun x6 => addW 6 x6 (fun x7 => load1W x7 (fun x8 => notW x8 (fun x9 => joinW0 (drewW (nilW a0 (fun x10 => addW 7 x10 (fun x11 => load1W x11 (fun x12 => nilW a0 (fun x13 => addW 5 x13 (fun x14 => load1W x14 (fun x15 => lenW x15 (fun x16 => binIntW .eql x12 x16 (fun x17 => joinW0 (K (Value.tuple #[])) (fun j2 => condP x17 (nilW a0 (fun x18 => addW 0 x18 (fun x19 => CP Tryz.prog Fn.patience_Patience_Stop [x19, (Value.int .i64 2), (Value.int .i64 0), (Value.int .i64 (-1))] (fun x20 => j2)))) (j2)))))))))))) (fun j1 => condP x9 (drewW (addW 0 x1 (fun x21 => load1W x21 (fun x22 => nilW a0 (fun x23 => addW 6 x23 (fun x24 => storeW 1 x24 (Value.bool true) (fun _ => andP (andP (load1W x21 (fun v => eqP v x22)) (trueP)) (nilW a0 (fun x26 => addW 8 x26 (fun x27 => storeW 1 x27 x22 (fun _ => andP (andP (trueP) (trueP)) (j1)))))))))))) (addW 1 x1 (fun x29 => addW 1 x29 (fun x30 => load1W x30 (fun x31 => condP x31 (drewW (nilW a0 (fun x32 => addW 0 x32 (fun x33 => addW 1 x1 (fun x34 => loadNW 3 x34 (fun x35 => CP Tryz.prog Fn.patience_Patience_Waits [x33, x35] (fun x36 => andP (andP (trueP) (trueP)) (notW x36 (fun x37 => joinW0 (K (Value.tuple #[])) (fun j3 => condP x37 (drewW (nilW a0 (fun x38 => addW 0 x38 (fun x39 => addW 1 x1 (fun x40 => addW 2 x40 (fun x41 => load1W x41 (fun x42 => CP Tryz.prog Fn.patience_Patience_Stop [x39, (Value.int .i64 5), (Value.int .i64 0), x42] (fun x43 => andP (andP (trueP) (trueP)) (j3))))))))) (j3))))))))))) (drewW (addW 1 x1 (fun x44 => addW 0 x44 (fun x45 => load1W x45 (fun x46 => nilW a0 (fun x47 => addW 5 x47 (fun x48 => load1W x48 (fun x49 => nilW a0 (fun x50 => addW 7 x50 (fun x51 => load1W x51 (fun x52 => idxW 2 x49 x52 (fun x53 => addW 1 x53 (fun x54 => load1W x54 (fun x55 => binIntW .neq x46 x55 (fun x56 => condP x56 (nilW a0 (fun x57 => addW 0 x57 (fun x58 => CP Tryz.prog Fn.patience_Patience_Stop [x58, (Value.int .i64 5), (Value.int .i64 0), (Value.int .i64 (-1))] (fun x59 => K (Value.tuple #[]))))) (nilW a0 (fun x60 => addW 7 x60 (fun x61 => load1W x61 (fun x62 => binIntW .add x62 (Value.int .i64 1) (fun x63 => nilW a0 (fun x64 => addW 7 x64 (fun x65 => storeW 1 x65 x63 (fun _ => j1))))))))))))))))))))))))))))))))))))))))

/-- commit_Commit_By -/
def S_commit_Commit_By (a0 : Value) (K : KV) : World → Prop :=
  nilW a0 (fun x1 => addW 0 x1 (fun x2 => CP Tryz.prog Fn.patience_Patience_By [x2] (fun x3 => K x3)))

/-- commit_Commit_Next -/
def S_commit_Commit_Next (a0 : Value) (K : KV) : World → Prop :=
  newW #[(Value.int .i64 0), (Value.int .i64 0), (Value.int .u64 0), (Value.int .u64 0), (Value.int .u64 0), (Value.bool false), (Value.int .i64 0), (Value.int .u64 0), (Value.bool false), (Value.int .i64 0)] (fun x1 => nilW a0 (fun x2 => addW 0 x2 (fun x3 => CP Tryz.prog Fn.patience_Patience_End [x3] (fun x4 => binIntW .neq x4 (Value.int .i64 0) (fun x5 => condP x5 (buildW [(Value.int .i64 0), (Value.int .i64 0), (Value.int .u64 0), (Value.int .u64 0), (Value.int .u64 0), (Value.bool false), (Value.int .i64 0), (Value.int .u64 0), (Value.bool false), (Value.int .i64 0)] [] (fun x6 => storeW 10 x1 x6 (fun _ => loadNW 10 x1 (fun x8 => K (Value.tuple #[x8, (Value.bool false)]))))) (nilW a0 (fun x9 => addW 11 x9 (fun x10 => load1W x10 (fun x11 => binIntW .eql x11 (Value.int .i64 0) (fun x12 => condP x12 (drewW (nilW a0 (fun x13 => addW 9 x13 (fun x14 => load1W x14 (fun x15 => nilW a0 (fun x16 => addW 10 x16 (fun x17 => load1W x17 (fun x18 => lenW x18 (fun x19 => idxW 1 x15 x19 (fun x20 => load1W x20 (fun x21 => buildW [(Value.int .i64 0), (Value.int .i64 0), (Value.int .u64 0), (Value.int .u64 0), (Value.int .u64 0), (Value.bool false), (Value.int .i64 0), (Value.int .u64 0), (Value.bool false), (Value.int .i64 0)] [(0, 1, (Value.int .i64 3)), (1, 1, x21)] (fun x22 => storeW 10 x1 x22 (fun _ => andP (andP (trueP) (andP (trueP) (andP (trueP) (trueP)))) (loadNW 10 x1 (fun x24 => K (Value.tuple #[x24, (Value.bool true)])))))))))))))))) (binIntW .eql x11 (Value.int .i64 1) (fun x25 => condP x25 (drewW (nilW a0 (fun x26 => addW 13 x26 (fun x27 => addW 0 x27 (fun x28 => load1W x28 (fun x29 => nilW a0 (fun x30 => addW 5 x30 (fun x31 => load1W x31 (fun x32 => buildW [(Value.int .u64 0), (Value.bool false), (Value.int .i64 0)] [(0, 1, x29), (1, 1, (Value.bool true)), (2, 1, x32)] (fun x33 => newW #[(Value.int .u64 0), (Value.bool false), (Value.int .i64 0)] (fun x34 => andP (andP (load1W x31 (fun v => eqP v x32)) (andP (load1W x28 (fun v => eqP v x29)) (trueP))) (storeW 3 x34 x33 (fun _ => andP (andP (trueP) (andP (trueP) (trueP))) (drewW (nilW a0 (fun x36 => addW 9 x36 (fun x37 => load1W x37 (fun x38 => nilW a0 (fun x39 => addW 10 x39 (fun x40 => load1W x40 (fun x41 => lenW x41 (fun x42 => idxW 1 x38 x42 (fun x43 => load1W x43 (fun x44 => nilW a0 (fun x45 => addW 13 x45 (fun x46 => loadNW 3 x46 (fun x47 => loadNW 3 x34 (fun x48 => buildW [(Value.int .i64 0), (Value.int .i64 0), (Value.int .u64 0), (Value.int .u64 0), (Value.int .u64 0), (Value.bool false), (Value.int .i64 0), (Value.int .u64 0), (Value.bool false), (Value.int .i64 0)] [(0, 1, (Value.int .i64 4)), (1, 1, x44), (4, 3, x47), (7, 3, x48)] (fun x49 => storeW 10 x1 x49 (fun _ => andP (andP (trueP) (andP (trueP) (andP (trueP) (andP (trueP) (andP (trueP) (trueP)))))) (loadNW 10 x1 (fun x51 => K (Value.tuple #[x51, (Value.bool true)]))))))))))))))))))))))))))))))))) (binIntW .eql x11 (Value.int .i64 2) (fun x52 => condP x52 (buildW [(Value.int .i64 0), (Value.int .i64 0), (Value.int .u64 0), (Value.int .u64 0), (Value.int .u64 0), (Value.bool false), (Value.int .i64 0), (Value.int .u64 0), (Value.bool false), (Value.int .i64 0)] [(0, 1, (Value.int .i64 6))] (fun x53 => storeW 10 x1 x53 (fun _ => loadNW 10 x1 (fun x55 => K (Value.tuple #[x55, (Value.bool true)]))))) (binIntW .eql x11 (Value.int .i64 3) (fun x56 => condP x56 (drewW (nilW a0 (fun x57 => addW 16 x57 (fun x58 => load1W x58 (fun x59 => nilW a0 (fun x60 => addW 16 x60 (fun x61 => load1W x61 (fun x62 => binIntW .add x62 (Value.int .u64 1) (fun x63 => buildW [(Value.int .i64 0), (Value.int .i64 0), (Value.int .u64 0), (Value.int .u64 0), (Value.int .u64 0), (Value.bool false), (Value.int .i64 0), (Value.int .u64 0), (Value.bool false), (Value.int .i64 0)] [(0, 1, (Value.int .i64 7)), (2, 1, x59), (3, 1, x63)] (fun x64 => storeW 10 x1 x64 (fun _ => andP (andP (trueP) (andP (trueP) (trueP))) (loadNW 10 x1 (fun x66 => K (Value.tuple #[x66, (Value.bool true)])))))))))))))) (binIntW .eql x11 (Value.int .i64 4) (fun x67 => condP x67 (drewW (nilW a0 (fun x68 => addW 7 x68 (fun x69 => load1W x69 (fun x70 => nilW a0 (fun x71 => addW 12 x71 (fun x72 => load1W x72 (fun x73 => idxW 2 x70 x73 (fun x74 => addW 0 x74 (fun x75 => load1W x75 (fun x76 => buildW [(Value.int .i64 0), (Value.int .i64 0), (Value.int .u64 0), (Value.int .u64 0), (Value.int .u64 0), (Value.bool false), (Value.int .i64 0), (Value.int .u64 0), (Value.bool false), (Value.int .i64 0)] [(0, 1, (Value.int .i64 3)), (1, 1, x76)] (fun x77 => storeW 10 x1 x77 (fun _ => andP (andP (trueP) (andP (trueP) (andP (trueP) (trueP)))) (loadNW 10 x1 (fun x79 => K (Value.tuple #[x79, (Value.bool true)])))))))))))))))) (binIntW .eql x11 (Value.int .i64 5) (fun x80 => condP x80 (drewW (nilW a0 (fun x81 => addW 8 x81 (fun x82 => load1W x82 (fun x83 => nilW a0 (fun x84 => addW 12 x84 (fun x85 => load1W x85 (fun x86 => idxW 2 x83 x86 (fun x87 => addW 0 x87 (fun x88 => load1W x88 (fun x89 => nilW a0 (fun x90 => addW 8 x90 (fun x91 => load1W x91 (fun x92 => nilW a0 (fun x93 => addW 12 x93 (fun x94 => load1W x94 (fun x95 => idxW 2 x92 x95 (fun x96 => addW 1 x96 (fun x97 => load1W x97 (fun x98 => buildW [(Value.int .i64 0), (Value.int .i64 0), (Value.int .u64 0), (Value.int .u64 0), (Value.int .u64 0), (Value.bool false), (Value.int .i64 0), (Value.int .u64 0), (Value.bool false), (Value.int .i64 0)] [(0, 1, (Value.int .i64 2)), (1, 1, x89), (3, 1, x98)] (fun x99 => storeW 10 x1 x99 (fun _ => andP (andP (trueP) (andP (trueP) (andP (trueP) (andP (trueP) (andP (trueP) (andP (trueP) (trueP))))))) (loadNW 10 x1 (fun x101 => K (Value.tuple #[x101, (Value.bool true)]))))))))))))))))))))))))) (binIntW .eql x11 (Value.int .i64 6) (fun x102 => condP x102 (drewW (nilW a0 (fun x103 => addW 9 x103 (fun x104 => load1W x104 (fun x105 => nilW a0 (fun x106 => addW 12 x106 (fun x107 => load1W x107 (fun x108 => idxW 1 x105 x108 (fun x109 => load1W x109 (fun x110 => nilW a0 (fun x111 => addW 16 x111 (fun x112 => load1W x112 (fun x113 => binIntW .add x113 (Value.int .u64 1) (fun x114 => buildW [(Value.int .u64 0), (Value.bool false), (Value.int .i64 0)] [(0, 1, x114)] (fun x115 => buildW [(Value.int .i64 0), (Value.int .i64 0), (Value.int .u64 0), (Value.int .u64 0), (Value.int .u64 0), (Value.bool false), (Value.int .i64 0), (Value.int .u64 0), (Value.bool false), (Value.int .i64 0)] [(0, 1, (Value.int .i64 5)), (1, 1, x110), (7, 3, x115)] (fun x116 => storeW 10 x1 x116 (fun _ => andP (andP (trueP) (andP (trueP) (andP (trueP) (andP (trueP) (trueP))))) (loadNW 10 x1 (fun x118 => K (Value.tuple #[x118, (Value.bool true)])))))))))))))))))))) (drewW (nilW a0 (fun x119 => addW 9 x119 (fun x120 => load1W x120 (fun x121 => nilW a0 (fun x122 => addW 12 x122 (fun x123 => load1W x123 (fun x124 => idxW 1 x121 x124 (fun x125 => load1W x125 (fun x126 => nilW a0 (fun x127 => addW 10 x127 (fun x128 => load1W x128 (fun x129 => nilW a0 (fun x130 => addW 12 x130 (fun x131 => load1W x131 (fun x132 => idxW 3 x129 x132 (fun x133 => loadNW 3 x133 (fun x134 => buildW [(Value.int .i64 0), (Value.int .i64 0), (Value.int .u64 0), (Value.int .u64 0), (Value.int .u64 0), (Value.bool false), (Value.int .i64 0), (Value.int .u64 0), (Value.bool false), (Value.int .i64 0)] [(0, 1, (Value.int .i64 5)), (1, 1, x126), (7, 3, x134)] (fun x135 => storeW 10 x1 x135 (fun _ => andP (andP (trueP) (andP (trueP) (andP (trueP) (andP (trueP) (andP (trueP) (andP (trueP) (trueP))))))) (loadNW 10 x1 (fun x137 => K (Value.tuple #[x137, (Value.bool true)])))))))))))))))))))))))))))))))))))))))))))))

/-- commit_Commit_Tell -/
def S_commit_Commit_Tell (a0 a1 : Value) (K : KV) : World → Prop :=
  boxW a1 (fun x1 => drewW (nilW a0 (fun x2 => addW 0 x2 (fun x3 => loadNW 6 x1 (fun x4 => CP Tryz.prog Fn.patience_Patience_Stopped [x3, x4] (fun x5 => andP (andP (trueP) (trueP)) (condP x5 (K (Value.tuple #[])) (nilW a0 (fun x6 => addW 11 x6 (fun x7 => load1W x7 (fun x8 => binIntW .eql x8 (Value.int .i64 0) (fun x9 => joinW1 (fun x10 => joinW0 (K (Value.tuple #[])) (fun j2 => condP x10 (loadNW 6 x1 (fun x11 => CP Tryz.prog Fn.commit_Commit_take [a0, x11] (fun x12 => j2))) (binIntW .eql x8 (Value.int .i64 2) (fun x13 => joinW1 (fun x14 => joinW0 (j2) (fun j4 => condP x14 (loadNW 6 x1 (fun x15 => CP Tryz.prog Fn.commit_Commit_raise [a0, x15] (fun x16 => j4))) (binIntW .eql x8 (Value.int .i64 4) (fun x17 => joinW0 (j4) (fun j5 => condP x17 (addW 1 x1 (fun x18 => loadNW 3 x18 (fun x19 => CP Tryz.prog Fn.commit_Commit_proved [a0, x19] (fun x20 => j5)))) (binIntW .eql x8 (Value.int .i64 5) (fun x21 => joinW0 (j5) (fun j6 => condP x21 (nilW a0 (fun x22 => addW 12 x22 (fun x23 => load1W x23 (fun x24 => binIntW .add x24 (Value.int .i64 1) (fun x25 => nilW a0 (fun x26 => addW 12 x26 (fun x27 => storeW 1 x27 x25 (fun _ => CP Tryz.prog Fn.commit_Commit_write [a0] (fun x29 => j6))))))))) (binIntW .eql x8 (Value.int .i64 6) (fun x30 => joinW0 (j6) (fun j7 => condP x30 (nilW a0 (fun x31 => addW 12 x31 (fun x32 => load1W x32 (fun x33 => binIntW .add x33 (Value.int .i64 1) (fun x34 => nilW a0 (fun x35 => addW 12 x35 (fun x36 => storeW 1 x36 x34 (fun _ => CP Tryz.prog Fn.commit_Commit_give [a0] (fun x38 => j7))))))))) (binIntW .eql x8 (Value.int .i64 7) (fun x39 => joinW0 (j7) (fun j8 => condP x39 (nilW a0 (fun x40 => addW 12 x40 (fun x41 => load1W x41 (fun x42 => binIntW .add x42 (Value.int .i64 1) (fun x43 => nilW a0 (fun x44 => addW 12 x44 (fun x45 => storeW 1 x45 x43 (fun _ => CP Tryz.prog Fn.commit_Commit_leave [a0] (fun x47 => j8))))))))) (j8))))))))))))))) (fun j3 => condP x13 (j3 x13) (binIntW .eql x8 (Value.int .i64 3) (fun x48 => j3 x48))))))) (fun j1 => condP x9 (j1 x9) (binIntW .eql x8 (Value.int .i64 1) (fun x49 => j1 x49)))))))))))))))

/-- commit_Commit_begin -/
def S_commit_Commit_begin (a0 : Value) (K : KV) : World → Prop :=
  nilW a0 (fun x1 => addW 17 x1 (fun x2 => storeW 1 x2 (Value.bool true) (fun _ => nilW a0 (fun x4 => addW 12 x4 (fun x5 => storeW 1 x5 (Value.int .i64 0) (fun _ => nilW a0 (fun x7 => addW 11 x7 (fun x8 => storeW 1 x8 (Value.int .i64 5) (fun _ => CP Tryz.prog Fn.commit_Commit_write [a0] (fun x10 => K (Value.tuple #[])))))))))))

/-- commit_Commit_take -/
def S_commit_Commit_take (a0 a1 : Value) (K : KV) : World → Prop :=
  boxW a1 (fun x1 => nilW a0 (fun x2 => addW 11 x2 (fun x3 => load1W x3 (fun x4 => binIntW .eql x4 (Value.int .i64 0) (fun x5 => gW x5 true (fun K => addW 1 x1 K) (fun x6 => gW x5 true (fun K => addW 1 x6 K) (fun x7 => gW x5 true (fun K => load1W x7 K) (fun x8 => pickW x5 x8 (Value.bool false) (fun x9 => joinW0 (K (Value.tuple #[])) (fun j1 => condP x9 (addW 1 x1 (fun x10 => loadNW 3 x10 (fun x11 => CP Tryz.prog Fn.commit_Commit_held [a0, x11] (fun x12 => j1)))) (nilW a0 (fun x13 => addW 11 x13 (fun x14 => load1W x14 (fun x15 => binIntW .eql x15 (Value.int .i64 0) (fun x16 => joinW0 (j1) (fun j2 => condP x16 (addW 1 x1 (fun x17 => loadNW 3 x17 (fun x18 => nilW a0 (fun x19 => addW 13 x19 (fun x20 => storeW 3 x20 x18 (fun _ => nilW a0 (fun x22 => addW 11 x22 (fun x23 => storeW 1 x23 (Value.int .i64 1) (fun _ => j2))))))))) (addW 4 x1 (fun x25 => load1W x25 (fun x26 => joinW0 (j2) (fun j3 => condP x26 (drewW (nilW a0 (fun x27 => addW 10 x27 (fun x28 => load1W x28 (fun x29 => nilW a0 (fun x30 => addW 13 x30 (fun x31 => loadNW 3 x31 (fun x32 => buildSliceW [(Value.int .u64 0), (Value.bool false), (Value.int .i64 0)] 1 [(0, 3, x32)] (fun x33 => andP (andP (trueP) (andP (load1W x28 (fun v => eqP v x29)) (trueP))) (appendW 3 24 x29 x33 (fun x34 => andP (andP (trueP) (trueP)) (nilW a0 (fun x35 => addW 10 x35 (fun x36 => storeW 1 x36 x34 (fun _ => andP (trueP) (CP Tryz.prog Fn.commit_Commit_more [a0] (fun x38 => j3))))))))))))))))) (nilW a0 (fun x39 => addW 11 x39 (fun x40 => storeW 1 x40 (Value.int .i64 0) (fun _ => j3))))))))))))))))))))))))

/-- commit_Commit_raise -/
def S_commit_Commit_raise (a0 a1 : Value) (K : KV) : World → Prop :=
  boxW a1 (fun x1 => nilW a0 (fun x2 => addW 11 x2 (fun x3 => load1W x3 (fun x4 => binIntW .eql x4 (Value.int .i64 2) (fun x5 => gW x5 true (fun K => addW 0 x1 K) (fun x6 => gW x5 true (fun K => load1W x6 K) (fun x7 => gW x5 true (fun K => binIntW .geq x7 (Value.int .u64 4611686018427387903) K) (fun x8 => pickW x5 x8 (Value.bool false) (fun x9 => joinW0 (K (Value.tuple #[])) (fun j1 => condP x9 (CP Tryz.prog Fn.commit_Commit_stop [a0, (Value.int .i64 4), (Value.int .i64 7), (Value.int .i64 (-1))] (fun x10 => j1)) (nilW a0 (fun x11 => addW 11 x11 (fun x12 => load1W x12 (fun x13 => binIntW .eql x13 (Value.int .i64 2) (fun x14 => joinW0 (j1) (fun j2 => condP x14 (addW 0 x1 (fun x15 => load1W x15 (fun x16 => nilW a0 (fun x17 => addW 16 x17 (fun x18 => storeW 1 x18 x16 (fun _ => nilW a0 (fun x20 => addW 11 x20 (fun x21 => storeW 1 x21 (Value.int .i64 3) (fun _ => j2))))))))) (addW 4 x1 (fun x23 => load1W x23 (fun x24 => notW x24 (fun x25 => joinW0 (j2) (fun j3 => condP x25 (nilW a0 (fun x26 => addW 11 x26 (fun x27 => storeW 1 x27 (Value.int .i64 2) (fun _ => j3)))) (drewW (nilW a0 (fun x29 => addW 16 x29 (fun x30 => load1W x30 (fun x31 => nilW a0 (fun x32 => addW 6 x32 (fun x33 => load1W x33 (fun x34 => binIntW .eql x31 x34 (fun x35 => joinW0 (j3) (fun j4 => condP x35 (CP Tryz.prog Fn.commit_Commit_begin [a0] (fun x36 => j4)) (CP Tryz.prog Fn.commit_Commit_prove [a0] (fun x37 => j4)))))))))))))))))))))))))))))))))

/-- commit_Commit_proved -/
def S_commit_Commit_proved (a0 a1 : Value) (K : KV) : World → Prop :=
  boxW a1 (fun x1 => addW 1 x1 (fun x2 => load1W x2 (fun x3 => joinW0 (K (Value.tuple #[])) (fun j1 => condP x3 (loadNW 3 x1 (fun x4 => CP Tryz.prog Fn.commit_Commit_held [a0, x4] (fun x5 => j1))) (drewW (addW 0 x1 (fun x6 => load1W x6 (fun x7 => nilW a0 (fun x8 => addW 7 x8 (fun x9 => load1W x9 (fun x10 => nilW a0 (fun x11 => addW 12 x11 (fun x12 => load1W x12 (fun x13 => idxW 2 x10 x13 (fun x14 => addW 1 x14 (fun x15 => load1W x15 (fun x16 => binIntW .neq x7 x16 (fun x17 => joinW0 (j1) (fun j2 => condP x17 (CP Tryz.prog Fn.commit_Commit_stop [a0, (Value.int .i64 5), (Value.int .i64 0), (Value.int .i64 (-1))] (fun x18 => j2)) (nilW a0 (fun x19 => addW 12 x19 (fun x20 => load1W x20 (fun x21 => binIntW .add x21 (Value.int .i64 1) (fun x22 => nilW a0 (fun x23 => addW 12 x23 (fun x24 => storeW 1 x24 x22 (fun _ => CP Tryz.prog Fn.commit_Commit_prove [a0] (fun x26 => j2))))))))))))))))))))))))))))

/-- commit_Commit_write -/
def S_commit_Commit_write (a0 : Value) (K : KV) : World → Prop :=
  drewW (nilW a0 (fun x1 => addW 12 x1 (fun x2 => load1W x2 (fun x3 => nilW a0 (fun x4 => addW 8 x4 (fun x5 => load1W x5 (fun x6 => lenW x6 (fun x7 => binIntW .eql x3 x7 (fun x8 => joinW0 (K (Value.tuple #[])) (fun j1 => condP x8 (nilW a0 (fun x9 => addW 12 x9 (fun x10 => storeW 1 x10 (Value.int .i64 0) (fun _ => nilW a0 (fun x12 => addW 11 x12 (fun x13 => storeW 1 x13 (Value.int .i64 6) (fun _ => CP Tryz.prog Fn.commit_Commit_give [a0] (fun x15 => j1)))))))) (j1)))))))))))

/-- commit_Commit_give -/
def S_commit_Commit_give (a0 : Value) (K : KV) : World → Prop :=
  drewW (nilW a0 (fun x1 => addW 12 x1 (fun x2 => load1W x2 (fun x3 => nilW a0 (fun x4 => addW 9 x4 (fun x5 => load1W x5 (fun x6 => lenW x6 (fun x7 => binIntW .eql x3 x7 (fun x8 => joinW0 (K (Value.tuple #[])) (fun j1 => condP x8 (nilW a0 (fun x9 => addW 0 x9 (fun x10 => CP Tryz.prog Fn.patience_Patience_Stop [x10, (Value.int .i64 2), (Value.int .i64 0), (Value.int .i64 (-1))] (fun x11 => j1)))) (j1)))))))))))

/-- commit_Commit_leave -/
def S_commit_Commit_leave (a0 : Value) (K : KV) : World → Prop :=
  drewW (nilW a0 (fun x1 => addW 12 x1 (fun x2 => load1W x2 (fun x3 => nilW a0 (fun x4 => addW 10 x4 (fun x5 => load1W x5 (fun x6 => lenW x6 (fun x7 => binIntW .eql x3 x7 (fun x8 => joinW0 (K (Value.tuple #[])) (fun j1 => condP x8 (drewW (nilW a0 (fun x9 => addW 0 x9 (fun x10 => nilW a0 (fun x11 => addW 18 x11 (fun x12 => load1W x12 (fun x13 => nilW a0 (fun x14 => addW 20 x14 (fun x15 => load1W x15 (fun x16 => nilW a0 (fun x17 => addW 19 x17 (fun x18 => load1W x18 (fun x19 => CP Tryz.prog Fn.patience_Patience_Stop [x10, x13, x16, x19] (fun x20 => andP (andP (trueP) (andP (trueP) (andP (trueP) (trueP)))) (j1))))))))))))))) (j1)))))))))))

/-- commit_Commit_held -/
def S_commit_Commit_held (a0 a1 : Value) (K : KV) : World → Prop :=
  boxW a1 (fun x1 => drewW (nilW a0 (fun x2 => addW 0 x2 (fun x3 => loadNW 3 x1 (fun x4 => CP Tryz.prog Fn.patience_Patience_Waits [x3, x4] (fun x5 => andP (andP (trueP) (trueP)) (notW x5 (fun x6 => joinW0 (K (Value.tuple #[])) (fun j1 => condP x6 (addW 2 x1 (fun x7 => load1W x7 (fun x8 => CP Tryz.prog Fn.commit_Commit_stop [a0, (Value.int .i64 5), (Value.int .i64 0), x8] (fun x9 => j1)))) (j1))))))))))

/-- commit_Commit_stop -/
def S_commit_Commit_stop (a0 a1 a2 a3 : Value) (K : KV) : World → Prop :=
  nilW a0 (fun x1 => addW 18 x1 (fun x2 => storeW 1 x2 a1 (fun _ => nilW a0 (fun x4 => addW 20 x4 (fun x5 => storeW 1 x5 a2 (fun _ => nilW a0 (fun x7 => addW 19 x7 (fun x8 => storeW 1 x8 a3 (fun _ => nilW a0 (fun x10 => addW 12 x10 (fun x11 => storeW 1 x11 (Value.int .i64 0) (fun _ => nilW a0 (fun x13 => addW 11 x13 (fun x14 => storeW 1 x14 (Value.int .i64 7) (fun _ => CP Tryz.prog Fn.commit_Commit_leave [a0] (fun x16 => K (Value.tuple #[])))))))))))))))))

/-- commit_Commit_prove -/
def S_commit_Commit_prove (a0 : Value) (K : KV) : World → Prop :=
  nilW a0 (fun x1 => addW 11 x1 (fun x2 => storeW 1 x2 (Value.int .i64 4) (fun _ => loopW0 (fun J1 => drewW (nilW a0 (fun x4 => addW 12 x4 (fun x5 => load1W x5 (fun x6 => nilW a0 (fun x7 => addW 7 x7 (fun x8 => load1W x8 (fun x9 => lenW x9 (fun x10 => binIntW .lss x6 x10 (fun x11 => condP x11 (drewW (nilW a0 (fun x12 => addW 9 x12 (fun x13 => load1W x13 (fun x14 => nilW a0 (fun x15 => addW 7 x15 (fun x16 => load1W x16 (fun x17 => nilW a0 (fun x18 => addW 12 x18 (fun x19 => load1W x19 (fun x20 => idxW 2 x17 x20 (fun x21 => addW 0 x21 (fun x22 => load1W x22 (fun x23 => CP Tryz.prog Fn.slices_BinarySearch_int_int [x14, x23] (fun x24 => andP (andP (trueP) (andP (trueP) (andP (trueP) (andP (trueP) (trueP))))) (extractW 0 x24 (fun x25 => extractW 1 x24 (fun x26 => notW x26 (fun x27 => condP x27 (K (Value.tuple #[])) (drewW (nilW a0 (fun x28 => addW 10 x28 (fun x29 => load1W x29 (fun x30 => idxW 3 x30 x25 (fun x31 => addW 0 x31 (fun x32 => load1W x32 (fun x33 => nilW a0 (fun x34 => addW 7 x34 (fun x35 => load1W x35 (fun x36 => nilW a0 (fun x37 => addW 12 x37 (fun x38 => load1W x38 (fun x39 => idxW 2 x36 x39 (fun x40 => addW 1 x40 (fun x41 => load1W x41 (fun x42 => binIntW .neq x33 x42 (fun x43 => condP x43 (CP Tryz.prog Fn.commit_Commit_stop [a0, (Value.int .i64 5), (Value.int .i64 0), (Value.int .i64 (-1))] (fun x44 => K (Value.tuple #[]))) (nilW a0 (fun x45 => addW 12 x45 (fun x46 => load1W x46 (fun x47 => binIntW .add x47 (Value.int .i64 1) (fun x48 => nilW a0 (fun x49 => addW 12 x49 (fun x50 => storeW 1 x50 x48 (fun _ => J1))))))))))))))))))))))))))))))))))))))))))))) (CP Tryz.prog Fn.commit_Commit_begin [a0] (fun x52 => K (Value.tuple #[]))))))))))))))))

/-- slices_BinarySearch_int_int -/
def S_slices_BinarySearch_int_int (a0 a1 : Value) (K : KV) : World → Prop :=
  lenW a0 (fun x1 => loopW2 (Value.int .i64 0) x1 (fun J1 x2 x3 => binIntW .lss x2 x3 (fun x4 => condP x4 (binIntW .add x2 x3 (fun x5 => convW .u64 x5 (fun x6 => binIntW .shr x6 (Value.int .u64 1) (fun x7 => convW .i64 x7 (fun x8 => idxW 1 a0 x8 (fun x9 => load1W x9 (fun x10 => CP Tryz.prog Fn.cmp_Less_int [x10, a1] (fun x11 => joinW2 (fun x12 x13 => J1 x12 x13) (fun j1 => condP x11 (binIntW .add x8 (Value.int .i64 1) (fun x14 => j1 x14 x3)) (j1 x2 x8)))))))))) (binIntW .lss x2 x1 (fun x15 => gW x15 true (fun K => K a0) (fun x16 => gW x15 true (fun K => K x2) (fun x17 => gW x15 true (fun K => idxW 1 x16 x17 K) (fun x18 => gW x15 true (fun K => load1W x18 K) (fun x19 => gW x15 true (fun K => K a1) (fun x20 => gW x15 true (fun K => binIntW .eql x19 x20 K) (fun x21 => gW x15 true (fun K => K x21) (fun x22 => gW x22 false (fun K => K a0) (fun x23 => gW x22 false (fun K => K x2) (fun x24 => gW x22 false (fun K => idxW 1 x23 x24 K) (fun x25 => gW x22 false (fun K => load1W x25 K) (fun x26 => gW x22 false (fun K => CP Tryz.prog Fn.slices_isNaN_int [x26] K) (fun x27 => gW x22 false (fun K => K x27) (fun x28 => gW x28 true (fun K => K a1) (fun x29 => gW x28 true (fun K => CP Tryz.prog Fn.slices_isNaN_int [x29] K) (fun x30 => gW x22 false (fun K => pickW x28 x30 (Value.bool false) K) (fun x31 => gW x15 true (fun K => pickW x22 (Value.bool true) x31 K) (fun x32 => pickW x15 x32 (Value.bool false) (fun x33 => K (Value.tuple #[x2, x33]))))))))))))))))))))))))

/-- slices_isNaN_int -/
def S_slices_isNaN_int (a0 : Value) (K : KV) : World → Prop :=
  binIntW .neq a0 a0 (fun x1 => K x1)

end Go.Proofs.YtoealglbimbbmaaGreatDoor.S
