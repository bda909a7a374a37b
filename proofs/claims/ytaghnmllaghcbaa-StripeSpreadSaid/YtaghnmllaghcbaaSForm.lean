/-
  THE PLAIN FORMS OF THE FUNCTIONS, by a program.
-/
import Derived.Test.YtaghnmllaghcbaaG
import Derived.Test.YtaghnmllaghcbaaProg
namespace Go.Proofs.Ytaghnmllaghcbaa.S
open Go Go.Proofs
set_option linter.unusedVariables false
set_option maxRecDepth 100000
abbrev Fn.gosem_cut_init : Nat := 2
abbrev Fn.law3_StripeRuns : Nat := 3
abbrev Fn.law3_StripeOf : Nat := 4
abbrev Fn.law3_StripeSpread : Nat := 5
abbrev Fn.law3_StripeOnce : Nat := 6
abbrev Fn.law24_ExtendRuns : Nat := 7
abbrev Fn.law23_FetchRuns : Nat := 8
abbrev Fn.law23_FetchWaits : Nat := 9
abbrev Fn.law24_ExtendPlays : Nat := 10
abbrev Fn.law23_FetchPlays : Nat := 11
abbrev Fn.law3_StripePlays : Nat := 12
abbrev Fn.law3_StripeCopies : Nat := 13
abbrev Fn.law23_FetchTrue : Nat := 14
abbrev Fn.law24_ExtendStands : Nat := 15
abbrev Fn.stripe_New : Nat := 16
abbrev Fn.stripe_Table_Cas : Nat := 17
abbrev Fn.stripe_Table_Load : Nat := 18
abbrev Fn.stripe_Table_Held : Nat := 19
abbrev Fn.stripe_Table_Of : Nat := 20
abbrev Fn.stripe_Table_Len : Nat := 21
abbrev Fn.stripe_Table_Copy : Nat := 22
abbrev Fn.ref1_Of : Nat := 23
abbrev Fn.stripe_Of : Nat := 24
abbrev Fn.extend_New : Nat := 25
abbrev Fn.extend_Extend_Next : Nat := 26
abbrev Fn.extend_Extend_Tell : Nat := 27
abbrev Fn.extend_Extend_End : Nat := 28
abbrev Fn.extend_Extend_Stamp : Nat := 29
abbrev Fn.extend_Extend_By : Nat := 30
abbrev Fn.fetch_New : Nat := 31
abbrev Fn.fetch_Fetch_Next : Nat := 32
abbrev Fn.fetch_Fetch_Tell : Nat := 33
abbrev Fn.fetch_Fetch_End : Nat := 34
abbrev Fn.fetch_Fetch_Word : Nat := 35
abbrev Fn.fetch_Fetch_Seen : Nat := 36
abbrev Fn.fetch_Fetch_By : Nat := 37
abbrev Fn.book_Within : Nat := 38
abbrev Fn.ref23_NewExtend : Nat := 39
abbrev Fn.ref23_Extend_Next : Nat := 40
abbrev Fn.extend_Extend_Err : Nat := 41
abbrev Fn.ref23_Extend_Tell : Nat := 42
abbrev Fn.ref23_NewFetch : Nat := 43
abbrev Fn.ref23_Fetch_Next : Nat := 44
abbrev Fn.fetch_Fetch_Err : Nat := 45
abbrev Fn.law23_near : Nat := 46
abbrev Fn.ref23_Fetch_Tell : Nat := 47
abbrev Fn.law3_do : Nat := 48
abbrev Fn.ref1_NewMem : Nat := 49
abbrev Fn.ref1_Mem_Copy : Nat := 50
abbrev Fn.law3_same : Nat := 51
abbrev Fn.mem_New : Nat := 52
abbrev Fn.mem_Mem_Do : Nat := 53
abbrev Fn.mem_Mem_Locks : Nat := 54
abbrev Fn.book_Same_api_Lock : Nat := 55
abbrev Fn.mem_Mem_Now : Nat := 56
abbrev Fn.ref7_Stands : Nat := 57
abbrev Fn.stripe_near : Nat := 58
abbrev Fn.stripe_Table_may : Nat := 59
abbrev Fn.stripe_Table_is : Nat := 60
abbrev Fn.stripe_Table_All : Nat := 61
abbrev Fn.ref1_Held : Nat := 62
abbrev Fn.patience_New : Nat := 63
abbrev Fn.slices_Clone_api_Seen_api_Seen : Nat := 64
abbrev Fn.patience_Patience_End : Nat := 65
abbrev Fn.patience_Patience_Stopped : Nat := 66
abbrev Fn.patience_Patience_Waits : Nat := 67
abbrev Fn.patience_Patience_Stop : Nat := 68
abbrev Fn.patience_Patience_By : Nat := 69
abbrev Fn.fetch_Fetch_found : Nat := 70
abbrev Fn.ref23_begin : Nat := 71
abbrev Fn.patience_Patience_Err : Nat := 72
abbrev Fn.ref23_Step_failed : Nat := 73
abbrev Fn.ref23_Step_held : Nat := 74
abbrev Fn.law3_lockOf : Nat := 75
abbrev Fn.ref1_Mem_Do : Nat := 76
abbrev Fn.stripe_Table_Store : Nat := 77
abbrev Fn.ref1_Shape : Nat := 78
abbrev Fn.mem_Held : Nat := 79
abbrev Fn.heap_New : Nat := 80
abbrev Fn.clock_New : Nat := 81
abbrev Fn.epoch_New : Nat := 82
abbrev Fn.mem_Mem_do : Nat := 83
abbrev Fn.clock_Clock_Load : Nat := 84
abbrev Fn.lock_Is : Nat := 85
abbrev Fn.slices_Clone_api_Lock_api_Lock : Nat := 86
abbrev Fn.ref1_Mem_word : Nat := 87
abbrev Fn.ref1_Mem_lock : Nat := 88
abbrev Fn.ref1_Mem_clock : Nat := 89
abbrev Fn.heap_Heap_Load : Nat := 90
abbrev Fn.heap_Heap_Store : Nat := 91
abbrev Fn.clock_Clock_Cas : Nat := 92
abbrev Fn.epoch_Slots_Load : Nat := 93
abbrev Fn.epoch_Slots_Store : Nat := 94
abbrev Fn.lock_owns : Nat := 95
abbrev Fn.ref1_IsLock : Nat := 96
abbrev Fn.heap_Heap_is : Nat := 97
abbrev Fn.epoch_Slots_is : Nat := 98

/-- law3_StripeRuns -/
def S_law3_StripeRuns (K : KV) : World → Prop := fun w =>
 CP Try.prog Fn.stripe_New [(Value.int .i64 4), (Value.int .i64 2)] (fun x1 w =>
 eqNilW .eql x1 (Value.pointer none) (fun x2 w =>
 condP x2 (fun w => K (Value.bool false) w) (fun w => buildW [(Value.int .u64 0), (Value.bool false), (Value.int .i64 0)] [(0, 1, (Value.int .u64 0)), (1, 1, (Value.bool true)), (2, 1, (Value.int .i64 1))] (fun x3 w =>
 newW #[(Value.int .u64 0), (Value.bool false), (Value.int .i64 0)] (fun x4 w =>
 storeW 3 x4 x3 (fun _ w =>
 buildW [(Value.int .u64 0), (Value.bool false), (Value.int .i64 0)] [] (fun x6 w =>
 loadNW 3 x4 (fun x7 w =>
 CP Try.prog Fn.stripe_Table_Cas [x1, (Value.int .i64 1), x6, x7] (fun x8 w =>
 extractW 0 x8 (fun x9 w =>
 extractW 1 x8 (fun x10 w =>
 buildW [(Value.int .u64 0), (Value.bool false), (Value.int .i64 0)] [] (fun x11 w =>
 loadNW 3 x4 (fun x12 w =>
 CP Try.prog Fn.stripe_Table_Cas [x1, (Value.int .i64 1), x11, x12] (fun x13 w =>
 extractW 0 x13 (fun x14 w =>
 extractW 1 x13 (fun x15 w =>
 CP Try.prog Fn.stripe_Table_Load [x1, (Value.int .i64 4)] (fun x16 w =>
 extractW 0 x16 (fun x17 w =>
 extractW 1 x16 (fun x18 w =>
 newW #[(Value.int .u64 0), (Value.bool false), (Value.int .i64 0)] (fun x19 w =>
 storeW 3 x19 x17 (fun _ w =>
 CP Try.prog Fn.stripe_Table_Held [x1, (Value.int .i64 1)] (fun x21 w =>
 CP Try.prog Fn.stripe_Table_Of [x1, (Value.int .i64 0)] (fun x22 w =>
 binIntW .eql x22 (Value.int .i64 0) (fun x23 w =>
 gW x23 true (fun K w => K x1 w) (fun x24 w =>
 gW x23 true (fun K w => CP Try.prog Fn.stripe_Table_Of [x24, (Value.int .i64 1)] K w) (fun x25 w =>
 gW x23 true (fun K w => binIntW .eql x25 (Value.int .i64 0) K w) (fun x26 w =>
 pickW x23 x26 (Value.bool false) (fun x27 w =>
 gW x27 true (fun K w => K x1 w) (fun x28 w =>
 gW x27 true (fun K w => CP Try.prog Fn.stripe_Table_Of [x28, (Value.int .i64 2)] K w) (fun x29 w =>
 gW x27 true (fun K w => binIntW .eql x29 (Value.int .i64 1) K w) (fun x30 w =>
 pickW x27 x30 (Value.bool false) (fun x31 w =>
 gW x31 true (fun K w => K x1 w) (fun x32 w =>
 gW x31 true (fun K w => CP Try.prog Fn.stripe_Table_Of [x32, (Value.int .i64 8)] K w) (fun x33 w =>
 gW x31 true (fun K w => binIntW .eql x33 (Value.int .i64 0) K w) (fun x34 w =>
 pickW x31 x34 (Value.bool false) (fun x35 w =>
 gW x35 true (fun K w => K x1 w) (fun x36 w =>
 gW x35 true (fun K w => CP Try.prog Fn.stripe_Table_Len [x36] K w) (fun x37 w =>
 gW x35 true (fun K w => binIntW .eql x37 (Value.int .i64 4) K w) (fun x38 w =>
 pickW x35 x38 (Value.bool false) (fun x39 w =>
 gW x39 true (fun K w => K x9 w) (fun x40 w =>
 pickW x39 x40 (Value.bool false) (fun x41 w =>
 gW x41 true (fun K w => K x10 w) (fun x42 w =>
 gW x41 true (fun K w => binIntW .eql x42 (Value.int .i64 0) K w) (fun x43 w =>
 pickW x41 x43 (Value.bool false) (fun x44 w =>
 gW x44 true (fun K w => K x14 w) (fun x45 w =>
 gW x44 true (fun K w => notW x45 K w) (fun x46 w =>
 pickW x44 x46 (Value.bool false) (fun x47 w =>
 gW x47 true (fun K w => K x15 w) (fun x48 w =>
 gW x47 true (fun K w => binIntW .eql x48 (Value.int .i64 0) K w) (fun x49 w =>
 pickW x47 x49 (Value.bool false) (fun x50 w =>
 gW x50 true (fun K w => K x18 w) (fun x51 w =>
 gW x50 true (fun K w => binIntW .eql x51 (Value.int .i64 2) K w) (fun x52 w =>
 pickW x50 x52 (Value.bool false) (fun x53 w =>
 gW x53 true (fun K w => K x21 w) (fun x54 w =>
 gW x53 true (fun K w => lenW x54 K w) (fun x55 w =>
 gW x53 true (fun K w => binIntW .eql x55 (Value.int .i64 1) K w) (fun x56 w =>
 pickW x53 x56 (Value.bool false) (fun x57 w =>
 gW x57 true (fun K w => K x21 w) (fun x58 w =>
 gW x57 true (fun K w => idxW 1 x58 (Value.int .i64 0) K w) (fun x59 w =>
 gW x57 true (fun K w => load1W x59 K w) (fun x60 w =>
 gW x57 true (fun K w => binIntW .eql x60 (Value.int .i64 1) K w) (fun x61 w =>
 pickW x57 x61 (Value.bool false) (fun x62 w =>
 gW x62 true (fun K w => K x1 w) (fun x63 w =>
 gW x62 true (fun K w => CP Try.prog Fn.stripe_Table_Copy [x63] K w) (fun x64 w =>
 gW x62 true (fun K w => eqNilW .neq x64 (Value.pointer none) K w) (fun x65 w =>
 pickW x62 x65 (Value.bool false) (fun x66 w =>
 K x66 w) w) w) w) w) w) w) w) w) w) w) w) w) w) w) w) w) w) w) w) w) w) w) w) w) w) w) w) w) w) w) w) w) w) w) w) w) w) w) w) w) w) w) w) w) w) w) w) w) w) w) w) w) w) w) w) w) w) w) w) w) w) w) w) w) w) w) w

/-- law3_StripeOf -/
def S_law3_StripeOf (a0 a1 a2 : Value) (K : KV) : World → Prop := fun w =>
 CP Try.prog Fn.law3_StripeRuns [] (fun x1 w =>
 notW x1 (fun x2 w =>
 condP x2 (fun w => K (Value.bool false) w) (fun w => CP Try.prog Fn.stripe_New [a1, a2] (fun x3 w =>
 eqNilW .neq x3 (Value.pointer none) (fun x4 w =>
 gW x4 true (fun K w => K x3 w) (fun x5 w =>
 gW x4 true (fun K w => K a0 w) (fun x6 w =>
 gW x4 true (fun K w => CP Try.prog Fn.stripe_Table_Of [x5, x6] K w) (fun x7 w =>
 gW x4 true (fun K w => K a0 w) (fun x8 w =>
 gW x4 true (fun K w => K a1 w) (fun x9 w =>
 gW x4 true (fun K w => K a2 w) (fun x10 w =>
 gW x4 true (fun K w => CP Try.prog Fn.ref1_Of [x8, x9, x10] K w) (fun x11 w =>
 gW x4 true (fun K w => binIntW .eql x7 x11 K w) (fun x12 w =>
 pickW x4 x12 (Value.bool false) (fun x13 w =>
 gW x13 true (fun K w => K a0 w) (fun x14 w =>
 gW x13 true (fun K w => K a1 w) (fun x15 w =>
 gW x13 true (fun K w => K a2 w) (fun x16 w =>
 gW x13 true (fun K w => CP Try.prog Fn.stripe_Of [x14, x15, x16] K w) (fun x17 w =>
 gW x13 true (fun K w => K a0 w) (fun x18 w =>
 gW x13 true (fun K w => K a1 w) (fun x19 w =>
 gW x13 true (fun K w => K a2 w) (fun x20 w =>
 gW x13 true (fun K w => CP Try.prog Fn.ref1_Of [x18, x19, x20] K w) (fun x21 w =>
 gW x13 true (fun K w => binIntW .eql x17 x21 K w) (fun x22 w =>
 pickW x13 x22 (Value.bool false) (fun x23 w =>
 K x23 w) w) w) w) w) w) w) w) w) w) w) w) w) w) w) w) w) w) w) w) w) w) w) w) w

/-- law3_StripeSpread -/
def S_law3_StripeSpread (a0 a1 a2 : Value) (K : KV) : World → Prop := fun w =>
 CP Try.prog Fn.law3_StripeRuns [] (fun x1 w =>
 notW x1 (fun x2 w =>
 condP x2 (fun w => K (Value.bool false) w) (fun w => binIntW .rem a0 (Value.int .u8 16) (fun x3 w =>
 convW .i64 x3 (fun x4 w =>
 binIntW .add x4 (Value.int .i64 1) (fun x5 w =>
 binIntW .rem a1 (Value.int .u8 16) (fun x6 w =>
 convW .i64 x6 (fun x7 w =>
 binIntW .add x7 (Value.int .i64 1) (fun x8 w =>
 CP Try.prog Fn.stripe_New [x5, x8] (fun x9 w =>
 eqNilW .eql x9 (Value.pointer none) (fun x10 w =>
 condP x10 (fun w => K (Value.bool false) w) (fun w => convW .i64 a2 (fun x11 w =>
 binIntW .mul x11 x8 (fun x12 w =>
 CP Try.prog Fn.stripe_Table_Of [x9, x12] (fun x13 w =>
 loopW1 (Value.int .i64 0) (fun J1 x14 w =>
 binIntW .lss x14 x8 (fun x15 w =>
 condP x15 (fun w => binIntW .add x12 x14 (fun x16 w =>
 CP Try.prog Fn.stripe_Table_Of [x9, x16] (fun x17 w =>
 binIntW .neq x17 x13 (fun x18 w =>
 condP x18 (fun w => K (Value.bool false) w) (fun w => binIntW .add x14 (Value.int .i64 1) (fun x19 w =>
 J1 x19 w) w) w) w) w) w) (fun w => drewW (fun w => binIntW .geq x13 (Value.int .i64 0) (fun x20 w =>
 gW x20 true (fun K w => K x13 w) (fun x21 w =>
 gW x20 true (fun K w => K x5 w) (fun x22 w =>
 gW x20 true (fun K w => binIntW .lss x21 x22 K w) (fun x23 w =>
 pickW x20 x23 (Value.bool false) (fun x24 w =>
 gW x24 true (fun K w => K x9 w) (fun x25 w =>
 gW x24 true (fun K w => K x12 w) (fun x26 w =>
 gW x24 true (fun K w => K x8 w) (fun x27 w =>
 gW x24 true (fun K w => binIntW .add x26 x27 K w) (fun x28 w =>
 gW x24 true (fun K w => K x13 w) (fun x29 w =>
 gW x24 true (fun K w => binIntW .add x29 (Value.int .i64 1) K w) (fun x30 w =>
 gW x24 true (fun K w => K x5 w) (fun x31 w =>
 gW x24 true (fun K w => binIntW .rem x30 x31 K w) (fun x32 w =>
 gW x24 true (fun K w => CP Try.prog Fn.stripe_Table_Of [x25, x28] K w) (fun x33 w =>
 andP (fun w => trueP w) (fun w =>
 gW x24 true (fun K w => binIntW .eql x33 x32 K w) (fun x34 w =>
 pickW x24 x34 (Value.bool false) (fun x35 w =>
 gW x35 true (fun K w => K x9 w) (fun x36 w =>
 gW x35 true (fun K w => K x12 w) (fun x37 w =>
 gW x35 true (fun K w => K x8 w) (fun x38 w =>
 gW x35 true (fun K w => K x5 w) (fun x39 w =>
 gW x35 true (fun K w => binIntW .mul x38 x39 K w) (fun x40 w =>
 gW x35 true (fun K w => binIntW .add x37 x40 K w) (fun x41 w =>
 gW x35 true (fun K w => K x13 w) (fun x42 w =>
 gW x35 true (fun K w => CP Try.prog Fn.stripe_Table_Of [x36, x41] K w) (fun x43 w =>
 andP (fun w => trueP w) (fun w =>
 gW x35 true (fun K w => binIntW .eql x43 x42 K w) (fun x44 w =>
 pickW x35 x44 (Value.bool false) (fun x45 w =>
 gW x45 true (fun K w => K x9 w) (fun x46 w =>
 gW x45 true (fun K w => K x5 w) (fun x47 w =>
 gW x45 true (fun K w => CP Try.prog Fn.stripe_Table_Len [x46] K w) (fun x48 w =>
 andP (fun w => trueP w) (fun w =>
 gW x45 true (fun K w => binIntW .eql x48 x47 K w) (fun x49 w =>
 pickW x45 x49 (Value.bool false) (fun x50 w =>
 K x50 w) w) w) w) w) w) w) w) w) w) w) w) w) w) w) w) w) w) w) w) w) w) w) w) w) w) w) w) w) w) w) w) w) w) w) w) w) w) w) w) w) w) w) w) w) w) w) w) w) w) w) w) w) w

/-- law3_StripeOnce -/
def S_law3_StripeOnce (a0 a1 a2 : Value) (K : KV) : World → Prop := fun w =>
 CP Try.prog Fn.law3_StripeRuns [] (fun x1 w =>
 notW x1 (fun x2 w =>
 condP x2 (fun w => K (Value.bool false) w) (fun w => binIntW .rem a0 (Value.int .u8 16) (fun x3 w =>
 convW .i64 x3 (fun x4 w =>
 binIntW .add x4 (Value.int .i64 1) (fun x5 w =>
 CP Try.prog Fn.stripe_New [x5, (Value.int .i64 1)] (fun x6 w =>
 eqNilW .eql x6 (Value.pointer none) (fun x7 w =>
 condP x7 (fun w => K (Value.bool false) w) (fun w => convW .i64 a1 (fun x8 w =>
 binIntW .rem x8 x5 (fun x9 w =>
 CP Try.prog Fn.stripe_Table_Load [x6, x9] (fun x10 w =>
 extractW 0 x10 (fun x11 w =>
 extractW 1 x10 (fun x12 w =>
 newW #[(Value.int .u64 0), (Value.bool false), (Value.int .i64 0)] (fun x13 w =>
 storeW 3 x13 x11 (fun _ w =>
 loopW1 (Value.int .i64 0) (fun J1 x15 w =>
 lenW a2 (fun x16 w =>
 binIntW .lss x15 x16 (fun x17 w =>
 gW x17 true (fun K w => K x15 w) (fun x18 w =>
 gW x17 true (fun K w => binIntW .lss x18 (Value.int .i64 20) K w) (fun x19 w =>
 pickW x17 x19 (Value.bool false) (fun x20 w =>
 condP x20 (fun w => idxW 1 a2 x15 (fun x21 w =>
 load1W x21 (fun x22 w =>
 binIntW .rem x22 (Value.int .u8 4) (fun x23 w =>
 convW .i64 x23 (fun x24 w =>
 loadNW 3 x13 (fun x25 w =>
 addW 0 x13 (fun x26 w =>
 load1W x26 (fun x27 w =>
 buildW [(Value.int .u64 0), (Value.bool false), (Value.int .i64 0)] [(0, 1, x27), (1, 1, (Value.bool true)), (2, 1, x24)] (fun x28 w =>
 CP Try.prog Fn.stripe_Table_Cas [x6, x9, x25, x28] (fun x29 w =>
 extractW 0 x29 (fun x30 w =>
 extractW 1 x29 (fun x31 w =>
 binIntW .neq x31 (Value.int .i64 0) (fun x32 w =>
 gW x32 false (fun K w => K x30 w) (fun x33 w =>
 gW x32 false (fun K w => K x15 w) (fun x34 w =>
 gW x32 false (fun K w => binIntW .eql x34 (Value.int .i64 0) K w) (fun x35 w =>
 gW x32 false (fun K w => binBoolW .neq x33 x35 K w) (fun x36 w =>
 pickW x32 (Value.bool true) x36 (fun x37 w =>
 condP x37 (fun w => K (Value.bool false) w) (fun w => binIntW .add x15 (Value.int .i64 1) (fun x38 w =>
 J1 x38 w) w) w) w) w) w) w) w) w) w) w) w) w) w) w) w) w) w) w) w) (fun w => CP Try.prog Fn.stripe_Table_Load [x6, x9] (fun x39 w =>
 extractW 0 x39 (fun x40 w =>
 extractW 1 x39 (fun x41 w =>
 newW #[(Value.int .u64 0), (Value.bool false), (Value.int .i64 0)] (fun x42 w =>
 storeW 3 x42 x40 (fun _ w =>
 drewW (fun w => binIntW .eql x12 (Value.int .i64 0) (fun x44 w =>
 gW x44 true (fun K w => K x41 w) (fun x45 w =>
 gW x44 true (fun K w => binIntW .eql x45 (Value.int .i64 0) K w) (fun x46 w =>
 pickW x44 x46 (Value.bool false) (fun x47 w =>
 gW x47 true (fun K w => K a2 w) (fun x48 w =>
 gW x47 true (fun K w => lenW x48 K w) (fun x49 w =>
 gW x47 true (fun K w => binIntW .eql x49 (Value.int .i64 0) K w) (fun x50 w =>
 gW x47 true (fun K w => K x50 w) (fun x51 w =>
 gW x51 true (fun K w => loadNW 3 x42 K w) (fun x52 w =>
 gW x51 true (fun K w => loadNW 3 x13 K w) (fun x53 w =>
 gW x51 true (fun K w => eqAggW [.i .u64, .b, .i .i64] .eql x52 x53 K w) (fun x54 w =>
 gW x47 true (fun K w => pickW x51 x54 (Value.bool false) K w) (fun x55 w =>
 gW x47 true (fun K w => K x55 w) (fun x56 w =>
 gW x56 false (fun K w => K a2 w) (fun x57 w =>
 gW x56 false (fun K w => lenW x57 K w) (fun x58 w =>
 gW x56 false (fun K w => binIntW .gtr x58 (Value.int .i64 0) K w) (fun x59 w =>
 gW x56 false (fun K w => K x59 w) (fun x60 w =>
 gW x60 true (fun K w => addW 1 x42 K w) (fun x61 w =>
 gW x60 true (fun K w => load1W x61 K w) (fun x62 w =>
 gW x56 false (fun K w => pickW x60 x62 (Value.bool false) K w) (fun x63 w =>
 gW x56 false (fun K w => K x63 w) (fun x64 w =>
 gW x64 true (fun K w => addW 2 x42 K w) (fun x65 w =>
 gW x64 true (fun K w => load1W x65 K w) (fun x66 w =>
 gW x64 true (fun K w => K a2 w) (fun x67 w =>
 gW x64 true (fun K w => idxW 1 x67 (Value.int .i64 0) K w) (fun x68 w =>
 gW x64 true (fun K w => load1W x68 K w) (fun x69 w =>
 gW x64 true (fun K w => binIntW .rem x69 (Value.int .u8 4) K w) (fun x70 w =>
 gW x64 true (fun K w => convW .i64 x70 K w) (fun x71 w =>
 gW x64 true (fun K w => binIntW .eql x66 x71 K w) (fun x72 w =>
 gW x56 false (fun K w => pickW x64 x72 (Value.bool false) K w) (fun x73 w =>
 gW x47 true (fun K w => pickW x56 (Value.bool true) x73 K w) (fun x74 w =>
 pickW x47 x74 (Value.bool false) (fun x75 w =>
 K x75 w) w) w) w) w) w) w) w) w) w) w) w) w) w) w) w) w) w) w) w) w) w) w) w) w) w) w) w) w) w) w) w) w) w) w) w) w) w) w) w) w) w) w) w) w) w) w) w) w) w) w) w) w) w) w) w) w) w) w) w) w) w

/-- law24_ExtendRuns -/
def S_law24_ExtendRuns (K : KV) : World → Prop := fun w =>
 CP Try.prog Fn.extend_New [(Value.int .i64 0), (Value.int .i64 2), (Value.slice none 0 0)] (fun x1 w =>
 eqNilW .eql x1 (Value.pointer none) (fun x2 w =>
 condP x2 (fun w => K (Value.bool false) w) (fun w => CP Try.prog Fn.extend_Extend_Next [x1] (fun x3 w =>
 extractW 0 x3 (fun x4 w =>
 extractW 1 x3 (fun x5 w =>
 newW #[(Value.int .i64 0), (Value.int .i64 0), (Value.int .u64 0), (Value.int .u64 0), (Value.int .u64 0), (Value.bool false), (Value.int .i64 0), (Value.int .u64 0), (Value.bool false), (Value.int .i64 0)] (fun x6 w =>
 storeW 10 x6 x4 (fun _ w =>
 buildW [(Value.int .u64 0), (Value.int .u64 0), (Value.bool false), (Value.int .i64 0), (Value.bool false), (Value.int .i64 0)] [(0, 1, (Value.int .u64 8))] (fun x8 w =>
 CP Try.prog Fn.extend_Extend_Tell [x1, x8] (fun x9 w =>
 CP Try.prog Fn.extend_Extend_Next [x1] (fun x10 w =>
 extractW 0 x10 (fun x11 w =>
 extractW 1 x10 (fun x12 w =>
 newW #[(Value.int .i64 0), (Value.int .i64 0), (Value.int .u64 0), (Value.int .u64 0), (Value.int .u64 0), (Value.bool false), (Value.int .i64 0), (Value.int .u64 0), (Value.bool false), (Value.int .i64 0)] (fun x13 w =>
 storeW 10 x13 x11 (fun _ w =>
 gW x5 true (fun K w => loadNW 10 x6 K w) (fun x15 w =>
 gW x5 true (fun K w => buildW [(Value.int .i64 0), (Value.int .i64 0), (Value.int .u64 0), (Value.int .u64 0), (Value.int .u64 0), (Value.bool false), (Value.int .i64 0), (Value.int .u64 0), (Value.bool false), (Value.int .i64 0)] [(0, 1, (Value.int .i64 6))] K w) (fun x16 w =>
 gW x5 true (fun K w => eqAggW [.i .i64, .i .i64, .i .u64, .i .u64, .i .u64, .b, .i .i64, .i .u64, .b, .i .i64] .eql x15 x16 K w) (fun x17 w =>
 pickW x5 x17 (Value.bool false) (fun x18 w =>
 gW x18 true (fun K w => K x12 w) (fun x19 w =>
 gW x18 true (fun K w => notW x19 K w) (fun x20 w =>
 pickW x18 x20 (Value.bool false) (fun x21 w =>
 gW x21 true (fun K w => K x1 w) (fun x22 w =>
 gW x21 true (fun K w => CP Try.prog Fn.extend_Extend_End [x22] K w) (fun x23 w =>
 gW x21 true (fun K w => binIntW .eql x23 (Value.int .i64 2) K w) (fun x24 w =>
 pickW x21 x24 (Value.bool false) (fun x25 w =>
 gW x25 true (fun K w => K x1 w) (fun x26 w =>
 gW x25 true (fun K w => CP Try.prog Fn.extend_Extend_Stamp [x26] K w) (fun x27 w =>
 gW x25 true (fun K w => binIntW .eql x27 (Value.int .u64 8) K w) (fun x28 w =>
 pickW x25 x28 (Value.bool false) (fun x29 w =>
 gW x29 true (fun K w => K x1 w) (fun x30 w =>
 gW x29 true (fun K w => CP Try.prog Fn.extend_Extend_By [x30] K w) (fun x31 w =>
 gW x29 true (fun K w => binIntW .eql x31 (Value.int .i64 (-1)) K w) (fun x32 w =>
 pickW x29 x32 (Value.bool false) (fun x33 w =>
 K x33 w) w) w) w) w) w) w) w) w) w) w) w) w) w) w) w) w) w) w) w) w) w) w) w) w) w) w) w) w) w) w) w) w) w) w

/-- law23_FetchRuns -/
def S_law23_FetchRuns (K : KV) : World → Prop := fun w =>
 CP Try.prog Fn.fetch_New [(Value.int .i64 0), (Value.int .i64 9), (Value.int .i64 3), (Value.int .i64 2), (Value.int .u64 5)] (fun x1 w =>
 eqNilW .eql x1 (Value.pointer none) (fun x2 w =>
 condP x2 (fun w => K (Value.bool false) w) (fun w => CP Try.prog Fn.fetch_Fetch_Next [x1] (fun x3 w =>
 extractW 0 x3 (fun x4 w =>
 extractW 1 x3 (fun x5 w =>
 newW #[(Value.int .i64 0), (Value.int .i64 0), (Value.int .u64 0), (Value.int .u64 0), (Value.int .u64 0), (Value.bool false), (Value.int .i64 0), (Value.int .u64 0), (Value.bool false), (Value.int .i64 0)] (fun x6 w =>
 storeW 10 x6 x4 (fun _ w =>
 buildW [(Value.int .u64 0), (Value.bool false), (Value.int .i64 0)] [(0, 1, (Value.int .u64 3))] (fun x8 w =>
 buildW [(Value.int .u64 0), (Value.int .u64 0), (Value.bool false), (Value.int .i64 0), (Value.bool false), (Value.int .i64 0)] [(1, 3, x8)] (fun x9 w =>
 CP Try.prog Fn.fetch_Fetch_Tell [x1, x9] (fun x10 w =>
 CP Try.prog Fn.fetch_Fetch_Next [x1] (fun x11 w =>
 extractW 0 x11 (fun x12 w =>
 extractW 1 x11 (fun x13 w =>
 newW #[(Value.int .i64 0), (Value.int .i64 0), (Value.int .u64 0), (Value.int .u64 0), (Value.int .u64 0), (Value.bool false), (Value.int .i64 0), (Value.int .u64 0), (Value.bool false), (Value.int .i64 0)] (fun x14 w =>
 storeW 10 x14 x12 (fun _ w =>
 buildW [(Value.int .u64 0), (Value.int .u64 0), (Value.bool false), (Value.int .i64 0), (Value.bool false), (Value.int .i64 0)] [(0, 1, (Value.int .u64 7))] (fun x16 w =>
 CP Try.prog Fn.fetch_Fetch_Tell [x1, x16] (fun x17 w =>
 buildW [(Value.int .u64 0), (Value.bool false), (Value.int .i64 0)] [(0, 1, (Value.int .u64 3))] (fun x18 w =>
 buildW [(Value.int .u64 0), (Value.int .u64 0), (Value.bool false), (Value.int .i64 0), (Value.bool false), (Value.int .i64 0)] [(1, 3, x18)] (fun x19 w =>
 CP Try.prog Fn.fetch_Fetch_Tell [x1, x19] (fun x20 w =>
 CP Try.prog Fn.fetch_Fetch_Next [x1] (fun x21 w =>
 extractW 0 x21 (fun x22 w =>
 extractW 1 x21 (fun x23 w =>
 newW #[(Value.int .i64 0), (Value.int .i64 0), (Value.int .u64 0), (Value.int .u64 0), (Value.int .u64 0), (Value.bool false), (Value.int .i64 0), (Value.int .u64 0), (Value.bool false), (Value.int .i64 0)] (fun x24 w =>
 storeW 10 x24 x22 (fun _ w =>
 gW x5 true (fun K w => loadNW 10 x6 K w) (fun x26 w =>
 gW x5 true (fun K w => buildW [(Value.int .i64 0), (Value.int .i64 0), (Value.int .u64 0), (Value.int .u64 0), (Value.int .u64 0), (Value.bool false), (Value.int .i64 0), (Value.int .u64 0), (Value.bool false), (Value.int .i64 0)] [(0, 1, (Value.int .i64 3)), (1, 1, (Value.int .i64 3))] K w) (fun x27 w =>
 gW x5 true (fun K w => eqAggW [.i .i64, .i .i64, .i .u64, .i .u64, .i .u64, .b, .i .i64, .i .u64, .b, .i .i64] .eql x26 x27 K w) (fun x28 w =>
 pickW x5 x28 (Value.bool false) (fun x29 w =>
 gW x29 true (fun K w => loadNW 10 x14 K w) (fun x30 w =>
 gW x29 true (fun K w => buildW [(Value.int .i64 0), (Value.int .i64 0), (Value.int .u64 0), (Value.int .u64 0), (Value.int .u64 0), (Value.bool false), (Value.int .i64 0), (Value.int .u64 0), (Value.bool false), (Value.int .i64 0)] [(0, 1, (Value.int .i64 1)), (1, 1, (Value.int .i64 9))] K w) (fun x31 w =>
 gW x29 true (fun K w => eqAggW [.i .i64, .i .i64, .i .u64, .i .u64, .i .u64, .b, .i .i64, .i .u64, .b, .i .i64] .eql x30 x31 K w) (fun x32 w =>
 pickW x29 x32 (Value.bool false) (fun x33 w =>
 gW x33 true (fun K w => K x23 w) (fun x34 w =>
 gW x33 true (fun K w => notW x34 K w) (fun x35 w =>
 pickW x33 x35 (Value.bool false) (fun x36 w =>
 gW x36 true (fun K w => K x1 w) (fun x37 w =>
 gW x36 true (fun K w => CP Try.prog Fn.fetch_Fetch_End [x37] K w) (fun x38 w =>
 gW x36 true (fun K w => binIntW .eql x38 (Value.int .i64 2) K w) (fun x39 w =>
 pickW x36 x39 (Value.bool false) (fun x40 w =>
 gW x40 true (fun K w => K x1 w) (fun x41 w =>
 gW x40 true (fun K w => CP Try.prog Fn.fetch_Fetch_Word [x41] K w) (fun x42 w =>
 gW x40 true (fun K w => binIntW .eql x42 (Value.int .u64 7) K w) (fun x43 w =>
 pickW x40 x43 (Value.bool false) (fun x44 w =>
 gW x44 true (fun K w => K x1 w) (fun x45 w =>
 gW x44 true (fun K w => CP Try.prog Fn.fetch_Fetch_Seen [x45] K w) (fun x46 w =>
 gW x44 true (fun K w => buildW [(Value.int .i64 0), (Value.int .u64 0)] [(0, 1, (Value.int .i64 3)), (1, 1, (Value.int .u64 3))] K w) (fun x47 w =>
 gW x44 true (fun K w => eqAggW [.i .i64, .i .u64] .eql x46 x47 K w) (fun x48 w =>
 pickW x44 x48 (Value.bool false) (fun x49 w =>
 gW x49 true (fun K w => K x1 w) (fun x50 w =>
 gW x49 true (fun K w => CP Try.prog Fn.fetch_Fetch_By [x50] K w) (fun x51 w =>
 gW x49 true (fun K w => binIntW .eql x51 (Value.int .i64 (-1)) K w) (fun x52 w =>
 pickW x49 x52 (Value.bool false) (fun x53 w =>
 K x53 w) w) w) w) w) w) w) w) w) w) w) w) w) w) w) w) w) w) w) w) w) w) w) w) w) w) w) w) w) w) w) w) w) w) w) w) w) w) w) w) w) w) w) w) w) w) w) w) w) w) w) w) w) w) w

/-- law23_FetchWaits -/
def S_law23_FetchWaits (a0 a1 a2 a3 : Value) (K : KV) : World → Prop := fun w =>
 CP Try.prog Fn.law23_FetchRuns [] (fun x1 w =>
 notW x1 (fun x2 w =>
 condP x2 (fun w => K (Value.bool false) w) (fun w => binIntW .rem a0 (Value.int .u8 4) (fun x3 w =>
 convW .i64 x3 (fun x4 w =>
 binIntW .rem a1 (Value.int .u8 4) (fun x5 w =>
 convW .i64 x5 (fun x6 w =>
 binIntW .rem a2 (Value.int .u8 6) (fun x7 w =>
 convW .i64 x7 (fun x8 w =>
 binIntW .rem a3 (Value.int .u8 10) (fun x9 w =>
 convW .i64 x9 (fun x10 w =>
 CP Try.prog Fn.fetch_New [x4, (Value.int .i64 9), (Value.int .i64 3), x8, (Value.int .u64 5)] (fun x11 w =>
 eqNilW .eql x11 (Value.pointer none) (fun x12 w =>
 condP x12 (fun w => K (Value.bool false) w) (fun w => loopW1 (Value.int .i64 0) (fun J1 x13 w =>
 binIntW .lss x13 x10 (fun x14 w =>
 condP x14 (fun w => buildW [(Value.int .u64 0), (Value.bool false), (Value.int .i64 0)] [(0, 1, (Value.int .u64 1)), (1, 1, (Value.bool true)), (2, 1, x6)] (fun x15 w =>
 buildW [(Value.int .u64 0), (Value.int .u64 0), (Value.bool false), (Value.int .i64 0), (Value.bool false), (Value.int .i64 0)] [(1, 3, x15)] (fun x16 w =>
 CP Try.prog Fn.fetch_Fetch_Tell [x11, x16] (fun x17 w =>
 binIntW .add x13 (Value.int .i64 1) (fun x18 w =>
 J1 x18 w) w) w) w) w) (fun w => minW x8 [(Value.int .i64 4)] (fun x19 w =>
 binIntW .leq x6 x4 (fun x20 w =>
 gW x20 true (fun K w => K x10 w) (fun x21 w =>
 gW x20 true (fun K w => K x19 w) (fun x22 w =>
 gW x20 true (fun K w => binIntW .gtr x21 x22 K w) (fun x23 w =>
 pickW x20 x23 (Value.bool false) (fun x24 w =>
 condP x24 (fun w => CP Try.prog Fn.fetch_Fetch_Next [x11] (fun x25 w =>
 extractW 0 x25 (fun x26 w =>
 extractW 1 x25 (fun x27 w =>
 newW #[(Value.int .i64 0), (Value.int .i64 0), (Value.int .u64 0), (Value.int .u64 0), (Value.int .u64 0), (Value.bool false), (Value.int .i64 0), (Value.int .u64 0), (Value.bool false), (Value.int .i64 0)] (fun x28 w =>
 storeW 10 x28 x26 (fun _ w =>
 notW x27 (fun x30 w =>
 gW x30 true (fun K w => K x11 w) (fun x31 w =>
 gW x30 true (fun K w => CP Try.prog Fn.fetch_Fetch_End [x31] K w) (fun x32 w =>
 gW x30 true (fun K w => binIntW .eql x32 (Value.int .i64 5) K w) (fun x33 w =>
 pickW x30 x33 (Value.bool false) (fun x34 w =>
 gW x34 true (fun K w => K x11 w) (fun x35 w =>
 gW x34 true (fun K w => CP Try.prog Fn.fetch_Fetch_By [x35] K w) (fun x36 w =>
 gW x34 true (fun K w => K x6 w) (fun x37 w =>
 gW x34 true (fun K w => binIntW .eql x36 x37 K w) (fun x38 w =>
 pickW x34 x38 (Value.bool false) (fun x39 w =>
 K x39 w) w) w) w) w) w) w) w) w) w) w) w) w) w) w) w) (fun w => CP Try.prog Fn.fetch_Fetch_Next [x11] (fun x40 w =>
 extractW 0 x40 (fun x41 w =>
 extractW 1 x40 (fun x42 w =>
 newW #[(Value.int .i64 0), (Value.int .i64 0), (Value.int .u64 0), (Value.int .u64 0), (Value.int .u64 0), (Value.bool false), (Value.int .i64 0), (Value.int .u64 0), (Value.bool false), (Value.int .i64 0)] (fun x43 w =>
 storeW 10 x43 x41 (fun _ w =>
 notW x42 (fun x45 w =>
 gW x45 false (fun K w => loadNW 10 x43 K w) (fun x46 w =>
 gW x45 false (fun K w => buildW [(Value.int .i64 0), (Value.int .i64 0), (Value.int .u64 0), (Value.int .u64 0), (Value.int .u64 0), (Value.bool false), (Value.int .i64 0), (Value.int .u64 0), (Value.bool false), (Value.int .i64 0)] [(0, 1, (Value.int .i64 3)), (1, 1, (Value.int .i64 3))] K w) (fun x47 w =>
 gW x45 false (fun K w => eqAggW [.i .i64, .i .i64, .i .u64, .i .u64, .i .u64, .b, .i .i64, .i .u64, .b, .i .i64] .neq x46 x47 K w) (fun x48 w =>
 pickW x45 (Value.bool true) x48 (fun x49 w =>
 gW x49 false (fun K w => K x11 w) (fun x50 w =>
 gW x49 false (fun K w => CP Try.prog Fn.fetch_Fetch_By [x50] K w) (fun x51 w =>
 gW x49 false (fun K w => binIntW .neq x51 (Value.int .i64 (-1)) K w) (fun x52 w =>
 pickW x49 (Value.bool true) x52 (fun x53 w =>
 gW x53 false (fun K w => K x11 w) (fun x54 w =>
 gW x53 false (fun K w => CP Try.prog Fn.fetch_Fetch_End [x54] K w) (fun x55 w =>
 gW x53 false (fun K w => binIntW .neq x55 (Value.int .i64 0) K w) (fun x56 w =>
 pickW x53 (Value.bool true) x56 (fun x57 w =>
 condP x57 (fun w => K (Value.bool false) w) (fun w => buildW [(Value.int .u64 0), (Value.bool false), (Value.int .i64 0)] [(0, 1, (Value.int .u64 1))] (fun x58 w =>
 buildW [(Value.int .u64 0), (Value.int .u64 0), (Value.bool false), (Value.int .i64 0), (Value.bool false), (Value.int .i64 0)] [(1, 3, x58)] (fun x59 w =>
 CP Try.prog Fn.fetch_Fetch_Tell [x11, x59] (fun x60 w =>
 CP Try.prog Fn.fetch_Fetch_Next [x11] (fun x61 w =>
 extractW 0 x61 (fun x62 w =>
 extractW 1 x61 (fun x63 w =>
 storeW 10 x43 x62 (fun _ w =>
 gW x63 true (fun K w => loadNW 10 x43 K w) (fun x65 w =>
 gW x63 true (fun K w => buildW [(Value.int .i64 0), (Value.int .i64 0), (Value.int .u64 0), (Value.int .u64 0), (Value.int .u64 0), (Value.bool false), (Value.int .i64 0), (Value.int .u64 0), (Value.bool false), (Value.int .i64 0)] [(0, 1, (Value.int .i64 1)), (1, 1, (Value.int .i64 9))] K w) (fun x66 w =>
 gW x63 true (fun K w => eqAggW [.i .i64, .i .i64, .i .u64, .i .u64, .i .u64, .b, .i .i64, .i .u64, .b, .i .i64] .eql x65 x66 K w) (fun x67 w =>
 pickW x63 x67 (Value.bool false) (fun x68 w =>
 K x68 w) w) w) w) w) w) w) w) w) w) w) w) w) w) w) w) w) w) w) w) w) w) w) w) w) w) w) w) w) w) w) w) w) w) w) w) w) w) w) w) w) w) w) w) w) w) w) w) w) w) w) w) w) w) w

/-- law24_ExtendPlays -/
def S_law24_ExtendPlays (a0 a1 a2 a3 a4 : Value) (K : KV) : World → Prop := fun w =>
 CP Try.prog Fn.law24_ExtendRuns [] (fun x1 w =>
 notW x1 (fun x2 w =>
 condP x2 (fun w => K (Value.bool false) w) (fun w => lenW a2 (fun x3 w =>
 binIntW .gtr x3 (Value.int .i64 30) (fun x4 w =>
 condP x4 (fun w => K (Value.bool true) w) (fun w => loopW2 (Value.slice none 0 0) (Value.int .i64 0) (fun J1 x5 x6 w =>
 lenW a2 (fun x7 w =>
 binIntW .lss x6 x7 (fun x8 w =>
 condP x8 (fun w => idxW 2 a2 x6 (fun x9 w =>
 loadNW 2 x9 (fun x10 w =>
 newW #[(Value.int .i64 0), (Value.int .u64 0)] (fun x11 w =>
 storeW 2 x11 x10 (fun _ w =>
 notW a4 (fun x13 w =>
 joinW0 (fun  w =>
 loadNW 2 x11 (fun x14 w =>
 buildSliceW [(Value.int .i64 0), (Value.int .u64 0)] 1 [(0, 2, x14)] (fun x15 w =>
 appendW 2 16 x5 x15 (fun x16 w =>
 binIntW .add x6 (Value.int .i64 1) (fun x17 w =>
 J1 x16 x17 w) w) w) w) w) (fun j1 w =>
 condP x13 (fun w => drewW (fun w => addW 0 x11 (fun x18 w =>
 load1W x18 (fun x19 w =>
 addW 1 x11 (fun x20 w =>
 load1W x20 (fun x21 w =>
 binIntW .rem x21 (Value.int .u64 2) (fun x22 w =>
 CP Try.prog Fn.book_Within [x19, (Value.int .i64 0), (Value.int .i64 15)] (fun x23 w =>
 andP (fun w => andP (fun w => load1W x20 (fun v w => eqP v x21 w) w) (fun w => andP (fun w => trueP w) (fun w => trueP w) w) w) (fun w =>
 buildW [(Value.int .i64 0), (Value.int .u64 0)] [(0, 1, x23), (1, 1, x22)] (fun x24 w =>
 storeW 2 x11 x24 (fun _ w =>
 andP (fun w => andP (fun w => trueP w) (fun w => trueP w) w) (fun w =>
 j1  w) w) w) w) w) w) w) w) w) w) w) w) (fun w => j1  w) w) w) w) w) w) w) w) (fun w => notW a4 (fun x26 w =>
 joinW1 (fun x27 w =>
 CP Try.prog Fn.extend_New [x27, a1, x5] (fun x28 w =>
 CP Try.prog Fn.ref23_NewExtend [x27, a1, x5] (fun x29 w =>
 eqNilW .eql x28 (Value.pointer none) (fun x30 w =>
 condP x30 (fun w => K (Value.bool false) w) (fun w => loopW1 (Value.int .i64 0) (fun J2 x31 w =>
 lenW a3 (fun x32 w =>
 binIntW .leq x31 x32 (fun x33 w =>
 gW x33 true (fun K w => K x31 w) (fun x34 w =>
 gW x33 true (fun K w => binIntW .lss x34 (Value.int .i64 60) K w) (fun x35 w =>
 pickW x33 x35 (Value.bool false) (fun x36 w =>
 condP x36 (fun w => CP Try.prog Fn.extend_Extend_Next [x28] (fun x37 w =>
 extractW 0 x37 (fun x38 w =>
 extractW 1 x37 (fun x39 w =>
 newW #[(Value.int .i64 0), (Value.int .i64 0), (Value.int .u64 0), (Value.int .u64 0), (Value.int .u64 0), (Value.bool false), (Value.int .i64 0), (Value.int .u64 0), (Value.bool false), (Value.int .i64 0)] (fun x40 w =>
 storeW 10 x40 x38 (fun _ w =>
 buildW [(Value.int .i64 0), (Value.int .i64 0), (Value.int .u64 0), (Value.int .u64 0), (Value.int .u64 0), (Value.bool false), (Value.int .i64 0), (Value.int .u64 0), (Value.bool false), (Value.int .i64 0)] [] (fun x42 w =>
 newW #[(Value.int .i64 0), (Value.int .i64 0), (Value.int .u64 0), (Value.int .u64 0), (Value.int .u64 0), (Value.bool false), (Value.int .i64 0), (Value.int .u64 0), (Value.bool false), (Value.int .i64 0)] (fun x43 w =>
 storeW 10 x43 x42 (fun _ w =>
 nilW x29 (fun x45 w =>
 addW 0 x45 (fun x46 w =>
 addW 2 x46 (fun x47 w =>
 load1W x47 (fun x48 w =>
 binIntW .eql x48 (Value.int .i64 0) (fun x49 w =>
 joinW0 (fun  w =>
 nilW x29 (fun x50 w =>
 addW 0 x50 (fun x51 w =>
 addW 2 x51 (fun x52 w =>
 load1W x52 (fun x53 w =>
 binIntW .eql x53 (Value.int .i64 2) (fun x54 w =>
 joinW1 (fun x55 w =>
 drewW (fun w => nilW x29 (fun x56 w =>
 addW 0 x56 (fun x57 w =>
 addW 2 x57 (fun x58 w =>
 load1W x58 (fun x59 w =>
 binIntW .eql x59 (Value.int .i64 0) (fun x60 w =>
 binBoolW .neq x39 x60 (fun x61 w =>
 gW x61 false (fun K w => loadNW 10 x40 K w) (fun x62 w =>
 gW x61 false (fun K w => loadNW 10 x43 K w) (fun x63 w =>
 gW x61 false (fun K w => eqAggW [.i .i64, .i .i64, .i .u64, .i .u64, .i .u64, .b, .i .i64, .i .u64, .b, .i .i64] .neq x62 x63 K w) (fun x64 w =>
 pickW x61 (Value.bool true) x64 (fun x65 w =>
 gW x65 false (fun K w => K x28 w) (fun x66 w =>
 gW x65 false (fun K w => K x29 w) (fun x67 w =>
 gW x65 false (fun K w => nilW x67 K w) (fun x68 w =>
 gW x65 false (fun K w => addW 0 x68 K w) (fun x69 w =>
 gW x65 false (fun K w => addW 2 x69 K w) (fun x70 w =>
 gW x65 false (fun K w => load1W x70 K w) (fun x71 w =>
 gW x65 false (fun K w => CP Try.prog Fn.extend_Extend_End [x66] K w) (fun x72 w =>
 andP (fun w => andP (fun w => gW x65 false (fun K w => load1W x70 K w) (fun v w => eqP v x71 w) w) (fun w => andP (fun w => trueP w) (fun w => andP (fun w => trueP w) (fun w => andP (fun w => trueP w) (fun w => trueP w) w) w) w) w) (fun w =>
 gW x65 false (fun K w => binIntW .neq x72 x71 K w) (fun x73 w =>
 pickW x65 (Value.bool true) x73 (fun x74 w =>
 gW x74 false (fun K w => K x28 w) (fun x75 w =>
 gW x74 false (fun K w => K x29 w) (fun x76 w =>
 gW x74 false (fun K w => nilW x76 K w) (fun x77 w =>
 gW x74 false (fun K w => addW 0 x77 K w) (fun x78 w =>
 gW x74 false (fun K w => addW 3 x78 K w) (fun x79 w =>
 gW x74 false (fun K w => load1W x79 K w) (fun x80 w =>
 gW x74 false (fun K w => CP Try.prog Fn.extend_Extend_Err [x75] K w) (fun x81 w =>
 andP (fun w => andP (fun w => gW x74 false (fun K w => load1W x79 K w) (fun v w => eqP v x80 w) w) (fun w => andP (fun w => trueP w) (fun w => trueP w) w) w) (fun w =>
 gW x74 false (fun K w => binIntW .neq x81 x80 K w) (fun x82 w =>
 pickW x74 (Value.bool true) x82 (fun x83 w =>
 gW x83 false (fun K w => K x28 w) (fun x84 w =>
 gW x83 false (fun K w => K x29 w) (fun x85 w =>
 gW x83 false (fun K w => nilW x85 K w) (fun x86 w =>
 gW x83 false (fun K w => addW 0 x86 K w) (fun x87 w =>
 gW x83 false (fun K w => addW 4 x87 K w) (fun x88 w =>
 gW x83 false (fun K w => load1W x88 K w) (fun x89 w =>
 gW x83 false (fun K w => CP Try.prog Fn.extend_Extend_By [x84] K w) (fun x90 w =>
 andP (fun w => andP (fun w => gW x83 false (fun K w => load1W x88 K w) (fun v w => eqP v x89 w) w) (fun w => andP (fun w => trueP w) (fun w => trueP w) w) w) (fun w =>
 gW x83 false (fun K w => binIntW .neq x90 x89 K w) (fun x91 w =>
 pickW x83 (Value.bool true) x91 (fun x92 w =>
 gW x92 false (fun K w => K x28 w) (fun x93 w =>
 gW x92 false (fun K w => K x55 w) (fun x94 w =>
 gW x92 false (fun K w => CP Try.prog Fn.extend_Extend_Stamp [x93] K w) (fun x95 w =>
 andP (fun w => andP (fun w => trueP w) (fun w => trueP w) w) (fun w =>
 gW x92 false (fun K w => binIntW .neq x95 x94 K w) (fun x96 w =>
 pickW x92 (Value.bool true) x96 (fun x97 w =>
 condP x97 (fun w => K (Value.bool false) w) (fun w => lenW a3 (fun x98 w =>
 binIntW .lss x31 x98 (fun x99 w =>
 joinW0 (fun  w =>
 binIntW .add x31 (Value.int .i64 1) (fun x100 w =>
 J2 x100 w) w) (fun j5 w =>
 condP x99 (fun w => idxW 6 a3 x31 (fun x101 w =>
 loadNW 6 x101 (fun x102 w =>
 newW #[(Value.int .u64 0), (Value.int .u64 0), (Value.bool false), (Value.int .i64 0), (Value.bool false), (Value.int .i64 0)] (fun x103 w =>
 storeW 6 x103 x102 (fun _ w =>
 notW a4 (fun x105 w =>
 gW x105 false (fun K w => K x31 w) (fun x106 w =>
 gW x105 false (fun K w => binIntW .rem x106 (Value.int .i64 4) K w) (fun x107 w =>
 gW x105 false (fun K w => binIntW .lss x107 (Value.int .i64 3) K w) (fun x108 w =>
 pickW x105 (Value.bool true) x108 (fun x109 w =>
 joinW0 (fun  w =>
 loadNW 6 x103 (fun x110 w =>
 CP Try.prog Fn.extend_Extend_Tell [x28, x110] (fun x111 w =>
 loadNW 6 x103 (fun x112 w =>
 CP Try.prog Fn.ref23_Extend_Tell [x29, x112] (fun x113 w =>
 j5  w) w) w) w) w) (fun j6 w =>
 condP x109 (fun w => addW 5 x103 (fun x114 w =>
 storeW 1 x114 (Value.int .i64 0) (fun _ w =>
 addW 1 x103 (fun x116 w =>
 addW 0 x116 (fun x117 w =>
 load1W x117 (fun x118 w =>
 binIntW .rem x118 (Value.int .u64 2) (fun x119 w =>
 addW 1 x103 (fun x120 w =>
 addW 0 x120 (fun x121 w =>
 storeW 1 x121 x119 (fun _ w =>
 nilW x29 (fun x123 w =>
 addW 0 x123 (fun x124 w =>
 addW 2 x124 (fun x125 w =>
 load1W x125 (fun x126 w =>
 binIntW .eql x126 (Value.int .i64 0) (fun x127 w =>
 gW x127 true (fun K w => K x29 w) (fun x128 w =>
 gW x127 true (fun K w => nilW x128 K w) (fun x129 w =>
 gW x127 true (fun K w => addW 6 x129 K w) (fun x130 w =>
 gW x127 true (fun K w => load1W x130 K w) (fun x131 w =>
 gW x127 true (fun K w => binIntW .geq x131 (Value.int .i64 0) K w) (fun x132 w =>
 pickW x127 x132 (Value.bool false) (fun x133 w =>
 gW x133 true (fun K w => addW 0 x103 K w) (fun x134 w =>
 gW x133 true (fun K w => load1W x134 K w) (fun x135 w =>
 gW x133 true (fun K w => binIntW .rem x135 (Value.int .u64 4) K w) (fun x136 w =>
 gW x133 true (fun K w => binIntW .gtr x136 (Value.int .u64 0) K w) (fun x137 w =>
 pickW x133 x137 (Value.bool false) (fun x138 w =>
 joinW0 (fun  w =>
 addW 1 x103 (fun x139 w =>
 addW 2 x139 (fun x140 w =>
 load1W x140 (fun x141 w =>
 CP Try.prog Fn.book_Within [x141, (Value.int .i64 0), (Value.int .i64 3)] (fun x142 w =>
 addW 1 x103 (fun x143 w =>
 addW 2 x143 (fun x144 w =>
 storeW 1 x144 x142 (fun _ w =>
 j6  w) w) w) w) w) w) w) w) (fun j7 w =>
 condP x138 (fun w => nilW x29 (fun x146 w =>
 addW 6 x146 (fun x147 w =>
 load1W x147 (fun x148 w =>
 idxW 2 x5 x148 (fun x149 w =>
 addW 1 x149 (fun x150 w =>
 load1W x150 (fun x151 w =>
 buildW [(Value.int .u64 0), (Value.bool false), (Value.int .i64 0)] [(0, 1, x151)] (fun x152 w =>
 addW 1 x103 (fun x153 w =>
 storeW 3 x153 x152 (fun _ w =>
 j7  w) w) w) w) w) w) w) w) w) w) (fun w => j7  w) w) w) w) w) w) w) w) w) w) w) w) w) w) w) w) w) w) w) w) w) w) w) w) w) w) w) w) (fun w => j6  w) w) w) w) w) w) w) w) w) w) w) w) (fun w => j5  w) w) w) w) w) w) w) w) w) w) w) w) w) w) w) w) w) w) w) w) w) w) w) w) w) w) w) w) w) w) w) w) w) w) w) w) w) w) w) w) w) w) w) w) w) w) w) w) w) w) w) w) w) (fun j4 w =>
 condP x54 (fun w => nilW x29 (fun x155 w =>
 addW 7 x155 (fun x156 w =>
 load1W x156 (fun x157 w =>
 j4 x157 w) w) w) w) (fun w => j4 (Value.int .u64 0) w) w) w) w) w) w) w) w) (fun j3 w =>
 condP x49 (fun w => CP Try.prog Fn.ref23_Extend_Next [x29] (fun x158 w =>
 storeW 10 x43 x158 (fun _ w =>
 j3  w) w) w) (fun w => j3  w) w) w) w) w) w) w) w) w) w) w) w) w) w) w) w) (fun w => K (Value.bool true) w) w) w) w) w) w) w) w) w) w) w) w) (fun j2 w =>
 condP x26 (fun w => CP Try.prog Fn.book_Within [a0, (Value.int .i64 0), (Value.int .i64 3)] (fun x160 w =>
 j2 x160 w) w) (fun w => j2 a0 w) w) w) w) w) w) w) w) w) w) w) w) w) w

/-- law23_FetchPlays -/
def S_law23_FetchPlays (a0 a1 a2 a3 a4 a5 a6 : Value) (K : KV) : World → Prop := fun w =>
 CP Try.prog Fn.law23_FetchRuns [] (fun x1 w =>
 notW x1 (fun x2 w =>
 condP x2 (fun w => K (Value.bool false) w) (fun w => notW a6 (fun x3 w =>
 joinW2 (fun x4 x5 w =>
 CP Try.prog Fn.fetch_New [x4, a1, a2, a3, x5] (fun x6 w =>
 CP Try.prog Fn.ref23_NewFetch [x4, a1, a2, a3, x5] (fun x7 w =>
 eqNilW .eql x6 (Value.pointer none) (fun x8 w =>
 condP x8 (fun w => K (Value.bool false) w) (fun w => loopW1 (Value.int .i64 0) (fun J1 x9 w =>
 lenW a5 (fun x10 w =>
 binIntW .leq x9 x10 (fun x11 w =>
 gW x11 true (fun K w => K x9 w) (fun x12 w =>
 gW x11 true (fun K w => binIntW .lss x12 (Value.int .i64 40) K w) (fun x13 w =>
 pickW x11 x13 (Value.bool false) (fun x14 w =>
 condP x14 (fun w => CP Try.prog Fn.fetch_Fetch_Next [x6] (fun x15 w =>
 extractW 0 x15 (fun x16 w =>
 extractW 1 x15 (fun x17 w =>
 newW #[(Value.int .i64 0), (Value.int .i64 0), (Value.int .u64 0), (Value.int .u64 0), (Value.int .u64 0), (Value.bool false), (Value.int .i64 0), (Value.int .u64 0), (Value.bool false), (Value.int .i64 0)] (fun x18 w =>
 storeW 10 x18 x16 (fun _ w =>
 buildW [(Value.int .i64 0), (Value.int .i64 0), (Value.int .u64 0), (Value.int .u64 0), (Value.int .u64 0), (Value.bool false), (Value.int .i64 0), (Value.int .u64 0), (Value.bool false), (Value.int .i64 0)] [] (fun x20 w =>
 newW #[(Value.int .i64 0), (Value.int .i64 0), (Value.int .u64 0), (Value.int .u64 0), (Value.int .u64 0), (Value.bool false), (Value.int .i64 0), (Value.int .u64 0), (Value.bool false), (Value.int .i64 0)] (fun x21 w =>
 storeW 10 x21 x20 (fun _ w =>
 nilW x7 (fun x23 w =>
 addW 0 x23 (fun x24 w =>
 addW 2 x24 (fun x25 w =>
 load1W x25 (fun x26 w =>
 binIntW .eql x26 (Value.int .i64 0) (fun x27 w =>
 joinW0 (fun  w =>
 buildW [(Value.int .i64 0), (Value.int .u64 0)] [] (fun x28 w =>
 newW #[(Value.int .i64 0), (Value.int .u64 0)] (fun x29 w =>
 storeW 2 x29 x28 (fun _ w =>
 nilW x7 (fun x31 w =>
 addW 0 x31 (fun x32 w =>
 addW 2 x32 (fun x33 w =>
 load1W x33 (fun x34 w =>
 binIntW .eql x34 (Value.int .i64 2) (fun x35 w =>
 joinW1 (fun x36 w =>
 drewW (fun w => nilW x7 (fun x37 w =>
 addW 0 x37 (fun x38 w =>
 addW 2 x38 (fun x39 w =>
 load1W x39 (fun x40 w =>
 binIntW .eql x40 (Value.int .i64 0) (fun x41 w =>
 binBoolW .neq x17 x41 (fun x42 w =>
 gW x42 false (fun K w => loadNW 10 x18 K w) (fun x43 w =>
 gW x42 false (fun K w => loadNW 10 x21 K w) (fun x44 w =>
 gW x42 false (fun K w => eqAggW [.i .i64, .i .i64, .i .u64, .i .u64, .i .u64, .b, .i .i64, .i .u64, .b, .i .i64] .neq x43 x44 K w) (fun x45 w =>
 pickW x42 (Value.bool true) x45 (fun x46 w =>
 gW x46 false (fun K w => K x6 w) (fun x47 w =>
 gW x46 false (fun K w => K x7 w) (fun x48 w =>
 gW x46 false (fun K w => nilW x48 K w) (fun x49 w =>
 gW x46 false (fun K w => addW 0 x49 K w) (fun x50 w =>
 gW x46 false (fun K w => addW 2 x50 K w) (fun x51 w =>
 gW x46 false (fun K w => load1W x51 K w) (fun x52 w =>
 gW x46 false (fun K w => CP Try.prog Fn.fetch_Fetch_End [x47] K w) (fun x53 w =>
 andP (fun w => andP (fun w => gW x46 false (fun K w => load1W x51 K w) (fun v w => eqP v x52 w) w) (fun w => andP (fun w => trueP w) (fun w => andP (fun w => trueP w) (fun w => andP (fun w => trueP w) (fun w => trueP w) w) w) w) w) (fun w =>
 gW x46 false (fun K w => binIntW .neq x53 x52 K w) (fun x54 w =>
 pickW x46 (Value.bool true) x54 (fun x55 w =>
 gW x55 false (fun K w => K x6 w) (fun x56 w =>
 gW x55 false (fun K w => K x7 w) (fun x57 w =>
 gW x55 false (fun K w => nilW x57 K w) (fun x58 w =>
 gW x55 false (fun K w => addW 0 x58 K w) (fun x59 w =>
 gW x55 false (fun K w => addW 3 x59 K w) (fun x60 w =>
 gW x55 false (fun K w => load1W x60 K w) (fun x61 w =>
 gW x55 false (fun K w => CP Try.prog Fn.fetch_Fetch_Err [x56] K w) (fun x62 w =>
 andP (fun w => andP (fun w => gW x55 false (fun K w => load1W x60 K w) (fun v w => eqP v x61 w) w) (fun w => andP (fun w => trueP w) (fun w => trueP w) w) w) (fun w =>
 gW x55 false (fun K w => binIntW .neq x62 x61 K w) (fun x63 w =>
 pickW x55 (Value.bool true) x63 (fun x64 w =>
 gW x64 false (fun K w => K x6 w) (fun x65 w =>
 gW x64 false (fun K w => K x7 w) (fun x66 w =>
 gW x64 false (fun K w => nilW x66 K w) (fun x67 w =>
 gW x64 false (fun K w => addW 0 x67 K w) (fun x68 w =>
 gW x64 false (fun K w => addW 4 x68 K w) (fun x69 w =>
 gW x64 false (fun K w => load1W x69 K w) (fun x70 w =>
 gW x64 false (fun K w => CP Try.prog Fn.fetch_Fetch_By [x65] K w) (fun x71 w =>
 andP (fun w => andP (fun w => gW x64 false (fun K w => load1W x69 K w) (fun v w => eqP v x70 w) w) (fun w => andP (fun w => trueP w) (fun w => trueP w) w) w) (fun w =>
 gW x64 false (fun K w => binIntW .neq x71 x70 K w) (fun x72 w =>
 pickW x64 (Value.bool true) x72 (fun x73 w =>
 gW x73 false (fun K w => K x6 w) (fun x74 w =>
 gW x73 false (fun K w => K x36 w) (fun x75 w =>
 gW x73 false (fun K w => CP Try.prog Fn.fetch_Fetch_Word [x74] K w) (fun x76 w =>
 andP (fun w => andP (fun w => trueP w) (fun w => trueP w) w) (fun w =>
 gW x73 false (fun K w => binIntW .neq x76 x75 K w) (fun x77 w =>
 pickW x73 (Value.bool true) x77 (fun x78 w =>
 gW x78 false (fun K w => K x6 w) (fun x79 w =>
 gW x78 false (fun K w => loadNW 2 x29 K w) (fun x80 w =>
 gW x78 false (fun K w => CP Try.prog Fn.fetch_Fetch_Seen [x79] K w) (fun x81 w =>
 andP (fun w => andP (fun w => gW x78 false (fun K w => loadNW 2 x29 K w) (fun v w => eqP v x80 w) w) (fun w => trueP w) w) (fun w =>
 gW x78 false (fun K w => eqAggW [.i .i64, .i .u64] .neq x81 x80 K w) (fun x82 w =>
 pickW x78 (Value.bool true) x82 (fun x83 w =>
 condP x83 (fun w => K (Value.bool false) w) (fun w => lenW a5 (fun x84 w =>
 binIntW .lss x9 x84 (fun x85 w =>
 joinW0 (fun  w =>
 binIntW .add x9 (Value.int .i64 1) (fun x86 w =>
 J1 x86 w) w) (fun j4 w =>
 condP x85 (fun w => idxW 6 a5 x9 (fun x87 w =>
 loadNW 6 x87 (fun x88 w =>
 gW a6 true (fun K w => K x9 w) (fun x89 w =>
 gW a6 true (fun K w => binIntW .rem x89 (Value.int .i64 4) K w) (fun x90 w =>
 gW a6 true (fun K w => binIntW .eql x90 (Value.int .i64 3) K w) (fun x91 w =>
 pickW a6 x91 (Value.bool false) (fun x92 w =>
 CP Try.prog Fn.law23_near [x88, x92] (fun x93 w =>
 newW #[(Value.int .u64 0), (Value.int .u64 0), (Value.bool false), (Value.int .i64 0), (Value.bool false), (Value.int .i64 0)] (fun x94 w =>
 storeW 6 x94 x93 (fun _ w =>
 binIntW .gtr x9 (Value.int .i64 0) (fun x96 w =>
 gW x96 true (fun K w => K a5 w) (fun x97 w =>
 gW x96 true (fun K w => K x9 w) (fun x98 w =>
 gW x96 true (fun K w => idxW 6 x97 x98 K w) (fun x99 w =>
 gW x96 true (fun K w => addW 4 x99 K w) (fun x100 w =>
 gW x96 true (fun K w => load1W x100 K w) (fun x101 w =>
 pickW x96 x101 (Value.bool false) (fun x102 w =>
 gW x102 true (fun K w => K a6 w) (fun x103 w =>
 gW x102 true (fun K w => notW x103 K w) (fun x104 w =>
 pickW x102 x104 (Value.bool false) (fun x105 w =>
 joinW0 (fun  w =>
 loadNW 6 x94 (fun x106 w =>
 CP Try.prog Fn.fetch_Fetch_Tell [x6, x106] (fun x107 w =>
 loadNW 6 x94 (fun x108 w =>
 CP Try.prog Fn.ref23_Fetch_Tell [x7, x108] (fun x109 w =>
 j4  w) w) w) w) w) (fun j5 w =>
 condP x105 (fun w => binIntW .sub x9 (Value.int .i64 1) (fun x110 w =>
 idxW 6 a5 x110 (fun x111 w =>
 loadNW 6 x111 (fun x112 w =>
 CP Try.prog Fn.law23_near [x112, (Value.bool false)] (fun x113 w =>
 storeW 6 x94 x113 (fun _ w =>
 j5  w) w) w) w) w) w) (fun w => j5  w) w) w) w) w) w) w) w) w) w) w) w) w) w) w) w) w) w) w) w) w) w) (fun w => j4  w) w) w) w) w) w) w) w) w) w) w) w) w) w) w) w) w) w) w) w) w) w) w) w) w) w) w) w) w) w) w) w) w) w) w) w) w) w) w) w) w) w) w) w) w) w) w) w) w) w) w) w) w) w) w) w) w) w) w) (fun j3 w =>
 condP x35 (fun w => drewW (fun w => nilW x7 (fun x115 w =>
 addW 12 x115 (fun x116 w =>
 load1W x116 (fun x117 w =>
 nilW x7 (fun x118 w =>
 addW 9 x118 (fun x119 w =>
 addW 0 x119 (fun x120 w =>
 load1W x120 (fun x121 w =>
 buildW [(Value.int .i64 0), (Value.int .u64 0)] [(0, 1, a2), (1, 1, x121)] (fun x122 w =>
 storeW 2 x29 x122 (fun _ w =>
 andP (fun w => andP (fun w => trueP w) (fun w => andP (fun w => trueP w) (fun w => trueP w) w) w) (fun w =>
 j3 x117 w) w) w) w) w) w) w) w) w) w) w) w) (fun w => j3 (Value.int .u64 0) w) w) w) w) w) w) w) w) w) w) w) (fun j2 w =>
 condP x27 (fun w => CP Try.prog Fn.ref23_Fetch_Next [x7] (fun x124 w =>
 storeW 10 x21 x124 (fun _ w =>
 j2  w) w) w) (fun w => j2  w) w) w) w) w) w) w) w) w) w) w) w) w) w) w) w) (fun w => K (Value.bool true) w) w) w) w) w) w) w) w) w) w) w) w) (fun j1 w =>
 condP x3 (fun w => CP Try.prog Fn.book_Within [a0, (Value.int .i64 0), (Value.int .i64 3)] (fun x126 w =>
 binIntW .rem a4 (Value.int .u64 8) (fun x127 w =>
 j1 x126 x127 w) w) w) (fun w => j1 a0 a4 w) w) w) w) w) w) w

/-- law3_StripePlays -/
def S_law3_StripePlays (a0 a1 a2 : Value) (K : KV) : World → Prop := fun w =>
 CP Try.prog Fn.law3_StripeRuns [] (fun x1 w =>
 notW x1 (fun x2 w =>
 condP x2 (fun w => K (Value.bool false) w) (fun w => CP Try.prog Fn.stripe_New [a0, a1] (fun x3 w =>
 eqNilW .neq x3 (Value.pointer none) (fun x4 w =>
 gW x4 true (fun K w => K x3 w) (fun x5 w =>
 gW x4 true (fun K w => K a0 w) (fun x6 w =>
 gW x4 true (fun K w => K a1 w) (fun x7 w =>
 gW x4 true (fun K w => buildW [(Value.int .i64 0), (Value.int .i64 0), (Value.int .i64 0), (Value.int .i64 0), (Value.int .u64 0)] [(1, 1, x6), (2, 1, x7)] K w) (fun x8 w =>
 gW x4 true (fun K w => CP Try.prog Fn.ref1_NewMem [x8] K w) (fun x9 w =>
 gW x4 true (fun K w => K a2 w) (fun x10 w =>
 gW x4 true (fun K w => CP Try.prog Fn.law3_do [x5, x9, x10] K w) (fun x11 w =>
 pickW x4 x11 (Value.bool false) (fun x12 w =>
 K x12 w) w) w) w) w) w) w) w) w) w) w) w) w) w

/-- law3_StripeCopies -/
def S_law3_StripeCopies (a0 a1 a2 a3 a4 : Value) (K : KV) : World → Prop := fun w =>
 CP Try.prog Fn.law3_StripeRuns [] (fun x1 w =>
 notW x1 (fun x2 w =>
 condP x2 (fun w => K (Value.bool false) w) (fun w => CP Try.prog Fn.stripe_New [a0, a1] (fun x3 w =>
 buildW [(Value.int .i64 0), (Value.int .i64 0), (Value.int .i64 0), (Value.int .i64 0), (Value.int .u64 0)] [(1, 1, a0), (2, 1, a1)] (fun x4 w =>
 CP Try.prog Fn.ref1_NewMem [x4] (fun x5 w =>
 eqNilW .eql x3 (Value.pointer none) (fun x6 w =>
 gW x6 false (fun K w => K x3 w) (fun x7 w =>
 gW x6 false (fun K w => K x5 w) (fun x8 w =>
 gW x6 false (fun K w => K a2 w) (fun x9 w =>
 gW x6 false (fun K w => CP Try.prog Fn.law3_do [x7, x8, x9] K w) (fun x10 w =>
 gW x6 false (fun K w => notW x10 K w) (fun x11 w =>
 pickW x6 (Value.bool true) x11 (fun x12 w =>
 condP x12 (fun w => K (Value.bool false) w) (fun w => CP Try.prog Fn.stripe_Table_Copy [x3] (fun x13 w =>
 CP Try.prog Fn.ref1_Mem_Copy [x5] (fun x14 w =>
 eqNilW .neq x13 (Value.pointer none) (fun x15 w =>
 gW x15 true (fun K w => K x13 w) (fun x16 w =>
 gW x15 true (fun K w => K x14 w) (fun x17 w =>
 gW x15 true (fun K w => K a3 w) (fun x18 w =>
 gW x15 true (fun K w => CP Try.prog Fn.law3_do [x16, x17, x18] K w) (fun x19 w =>
 pickW x15 x19 (Value.bool false) (fun x20 w =>
 gW x20 true (fun K w => K x3 w) (fun x21 w =>
 gW x20 true (fun K w => K x5 w) (fun x22 w =>
 gW x20 true (fun K w => K a4 w) (fun x23 w =>
 gW x20 true (fun K w => CP Try.prog Fn.law3_do [x21, x22, x23] K w) (fun x24 w =>
 pickW x20 x24 (Value.bool false) (fun x25 w =>
 gW x25 true (fun K w => K x13 w) (fun x26 w =>
 gW x25 true (fun K w => K x14 w) (fun x27 w =>
 gW x25 true (fun K w => CP Try.prog Fn.law3_same [x26, x27] K w) (fun x28 w =>
 pickW x25 x28 (Value.bool false) (fun x29 w =>
 gW x29 true (fun K w => K x13 w) (fun x30 w =>
 gW x29 true (fun K w => CP Try.prog Fn.stripe_Table_Of [x30, (Value.int .i64 7)] K w) (fun x31 w =>
 gW x29 true (fun K w => K x3 w) (fun x32 w =>
 gW x29 true (fun K w => CP Try.prog Fn.stripe_Table_Of [x32, (Value.int .i64 7)] K w) (fun x33 w =>
 gW x29 true (fun K w => binIntW .eql x31 x33 K w) (fun x34 w =>
 pickW x29 x34 (Value.bool false) (fun x35 w =>
 K x35 w) w) w) w) w) w) w) w) w) w) w) w) w) w) w) w) w) w) w) w) w) w) w) w) w) w) w) w) w) w) w) w) w) w) w) w) w) w

/-- law23_FetchTrue -/
def S_law23_FetchTrue (a0 a1 a2 : Value) (K : KV) : World → Prop := fun w =>
 CP Try.prog Fn.law23_FetchRuns [] (fun x1 w =>
 notW x1 (fun x2 w =>
 condP x2 (fun w => K (Value.bool false) w) (fun w => buildW [(Value.int .i64 0), (Value.int .i64 0), (Value.int .i64 0), (Value.int .i64 0), (Value.int .u64 0)] [(0, 1, (Value.int .i64 32)), (1, 1, (Value.int .i64 1)), (3, 1, (Value.int .i64 2))] (fun x3 w =>
 CP Try.prog Fn.mem_New [x3] (fun x4 w =>
 binIntW .rem a2 (Value.int .u8 5) (fun x5 w =>
 convW .i64 x5 (fun x6 w =>
 binIntW .rem a1 (Value.int .u8 6) (fun x7 w =>
 convW .u64 x7 (fun x8 w =>
 CP Try.prog Fn.fetch_New [(Value.int .i64 0), (Value.int .i64 9), (Value.int .i64 0), x6, x8] (fun x9 w =>
 eqNilW .eql x4 (Value.pointer none) (fun x10 w =>
 gW x10 false (fun K w => K x9 w) (fun x11 w =>
 gW x10 false (fun K w => eqNilW .eql x11 (Value.pointer none) K w) (fun x12 w =>
 pickW x10 (Value.bool true) x12 (fun x13 w =>
 condP x13 (fun w => K (Value.bool false) w) (fun w => buildSliceW [(Value.int .u64 0)] 1 [(0, 1, (Value.int .u64 0))] (fun x14 w =>
 loopW3 x14 (Value.int .i64 0) (Value.int .i64 0) (fun J1 x15 x16 x17 w =>
 lenW a0 (fun x18 w =>
 binIntW .lss x17 x18 (fun x19 w =>
 gW x19 true (fun K w => K x17 w) (fun x20 w =>
 gW x19 true (fun K w => binIntW .lss x20 (Value.int .i64 60) K w) (fun x21 w =>
 pickW x19 x21 (Value.bool false) (fun x22 w =>
 condP x22 (fun w => joinW2 (fun x23 x24 w =>
 binIntW .add x17 (Value.int .i64 1) (fun x25 w =>
 J1 x23 x24 x25 w) w) (fun j1 w =>
 lenW x15 (fun x26 w =>
 binIntW .sub x26 (Value.int .i64 1) (fun x27 w =>
 convW .u64 x27 (fun x28 w =>
 idxW 2 a0 x17 (fun x29 w =>
 addW 0 x29 (fun x30 w =>
 load1W x30 (fun x31 w =>
 condP x31 (fun w => CP Try.prog Fn.fetch_Fetch_Next [x9] (fun x32 w =>
 extractW 0 x32 (fun x33 w =>
 extractW 1 x32 (fun x34 w =>
 newW #[(Value.int .i64 0), (Value.int .i64 0), (Value.int .u64 0), (Value.int .u64 0), (Value.int .u64 0), (Value.bool false), (Value.int .i64 0), (Value.int .u64 0), (Value.bool false), (Value.int .i64 0)] (fun x35 w =>
 storeW 10 x35 x33 (fun _ w =>
 joinW0 (fun  w =>
 j1 x15 x16 w) (fun j2 w =>
 condP x34 (fun w => loadNW 10 x35 (fun x37 w =>
 CP Try.prog Fn.mem_Mem_Do [x4, x37] (fun x38 w =>
 CP Try.prog Fn.fetch_Fetch_Tell [x9, x38] (fun x39 w =>
 j2  w) w) w) w) (fun w => j2  w) w) w) w) w) w) w) w) (fun w => binIntW .eql x16 (Value.int .i64 0) (fun x40 w =>
 joinW2 (fun x41 x42 w =>
 binIntW .add x42 (Value.int .i64 1) (fun x43 w =>
 binIntW .rem x43 (Value.int .i64 3) (fun x44 w =>
 j1 x41 x44 w) w) w) (fun j3 w =>
 condP x40 (fun w => buildW [(Value.int .u64 0), (Value.bool false), (Value.int .i64 0)] [(0, 1, x28), (1, 1, (Value.bool true)), (2, 1, (Value.int .i64 1))] (fun x45 w =>
 buildW [(Value.int .i64 0), (Value.int .i64 0), (Value.int .u64 0), (Value.int .u64 0), (Value.int .u64 0), (Value.bool false), (Value.int .i64 0), (Value.int .u64 0), (Value.bool false), (Value.int .i64 0)] [(0, 1, (Value.int .i64 5)), (7, 3, x45)] (fun x46 w =>
 CP Try.prog Fn.mem_Mem_Do [x4, x46] (fun x47 w =>
 j3 x15 x16 w) w) w) w) (fun w => binIntW .eql x16 (Value.int .i64 1) (fun x48 w =>
 joinW2 (fun x49 x50 w =>
 j3 x49 x50 w) (fun j4 w =>
 condP x48 (fun w => idxW 2 a0 x17 (fun x51 w =>
 addW 1 x51 (fun x52 w =>
 load1W x52 (fun x53 w =>
 joinW1 (fun x54 w =>
 j4 x15 x54 w) (fun j5 w =>
 condP x53 (fun w => buildW [(Value.int .u64 0), (Value.bool false), (Value.int .i64 0)] [(0, 1, x28)] (fun x55 w =>
 buildW [(Value.int .i64 0), (Value.int .i64 0), (Value.int .u64 0), (Value.int .u64 0), (Value.int .u64 0), (Value.bool false), (Value.int .i64 0), (Value.int .u64 0), (Value.bool false), (Value.int .i64 0)] [(0, 1, (Value.int .i64 5)), (7, 3, x55)] (fun x56 w =>
 CP Try.prog Fn.mem_Mem_Do [x4, x56] (fun x57 w =>
 j5 (Value.int .i64 2) w) w) w) w) (fun w => binIntW .add (Value.int .u64 100) x28 (fun x58 w =>
 buildW [(Value.int .i64 0), (Value.int .i64 0), (Value.int .u64 0), (Value.int .u64 0), (Value.int .u64 0), (Value.bool false), (Value.int .i64 0), (Value.int .u64 0), (Value.bool false), (Value.int .i64 0)] [(0, 1, (Value.int .i64 2)), (1, 1, (Value.int .i64 9)), (3, 1, x58)] (fun x59 w =>
 CP Try.prog Fn.mem_Mem_Do [x4, x59] (fun x60 w =>
 j5 x16 w) w) w) w) w) w) w) w) w) (fun w => binIntW .add x28 (Value.int .u64 1) (fun x61 w =>
 buildW [(Value.int .u64 0), (Value.bool false), (Value.int .i64 0)] [(0, 1, x61)] (fun x62 w =>
 buildW [(Value.int .i64 0), (Value.int .i64 0), (Value.int .u64 0), (Value.int .u64 0), (Value.int .u64 0), (Value.bool false), (Value.int .i64 0), (Value.int .u64 0), (Value.bool false), (Value.int .i64 0)] [(0, 1, (Value.int .i64 5)), (7, 3, x62)] (fun x63 w =>
 CP Try.prog Fn.mem_Mem_Do [x4, x63] (fun x64 w =>
 binIntW .add (Value.int .u64 100) x28 (fun x65 w =>
 buildSliceW [(Value.int .u64 0)] 1 [(0, 1, x65)] (fun x66 w =>
 appendW 1 8 x15 x66 (fun x67 w =>
 j4 x67 x16 w) w) w) w) w) w) w) w) w) w) w) w) w) w) w) w) w) w) w) w) w) w) (fun w => CP Try.prog Fn.fetch_Fetch_End [x9] (fun x68 w =>
 binIntW .eql x68 (Value.int .i64 0) (fun x69 w =>
 joinW1 (fun x70 w =>
 condP x70 (fun w => CP Try.prog Fn.fetch_Fetch_Word [x9] (fun x71 w =>
 binIntW .eql x71 (Value.int .u64 0) (fun x72 w =>
 K x72 w) w) w) (fun w => binIntW .eql x68 (Value.int .i64 2) (fun x73 w =>
 condP x73 (fun w => CP Try.prog Fn.fetch_Fetch_Seen [x9] (fun x74 w =>
 newW #[(Value.int .i64 0), (Value.int .u64 0)] (fun x75 w =>
 storeW 2 x75 x74 (fun _ w =>
 drewW (fun w => addW 0 x75 (fun x77 w =>
 load1W x77 (fun x78 w =>
 binIntW .eql x78 (Value.int .i64 0) (fun x79 w =>
 gW x79 true (fun K w => addW 1 x75 K w) (fun x80 w =>
 gW x79 true (fun K w => load1W x80 K w) (fun x81 w =>
 gW x79 true (fun K w => K a1 w) (fun x82 w =>
 gW x79 true (fun K w => binIntW .rem x82 (Value.int .u8 6) K w) (fun x83 w =>
 gW x79 true (fun K w => convW .u64 x83 K w) (fun x84 w =>
 gW x79 true (fun K w => binIntW .leq x81 x84 K w) (fun x85 w =>
 pickW x79 x85 (Value.bool false) (fun x86 w =>
 gW x86 true (fun K w => addW 1 x75 K w) (fun x87 w =>
 gW x86 true (fun K w => load1W x87 K w) (fun x88 w =>
 gW x86 true (fun K w => K x15 w) (fun x89 w =>
 gW x86 true (fun K w => lenW x89 K w) (fun x90 w =>
 gW x86 true (fun K w => convW .u64 x90 K w) (fun x91 w =>
 gW x86 true (fun K w => binIntW .lss x88 x91 K w) (fun x92 w =>
 pickW x86 x92 (Value.bool false) (fun x93 w =>
 gW x93 true (fun K w => K x9 w) (fun x94 w =>
 gW x93 true (fun K w => K x15 w) (fun x95 w =>
 gW x93 true (fun K w => addW 1 x75 K w) (fun x96 w =>
 gW x93 true (fun K w => load1W x96 K w) (fun x97 w =>
 gW x93 true (fun K w => idxW 1 x95 x97 K w) (fun x98 w =>
 gW x93 true (fun K w => load1W x98 K w) (fun x99 w =>
 gW x93 true (fun K w => CP Try.prog Fn.fetch_Fetch_Word [x94] K w) (fun x100 w =>
 andP (fun w => andP (fun w => gW x93 true (fun K w => load1W x98 K w) (fun v w => eqP v x99 w) w) (fun w => andP (fun w => gW x93 true (fun K w => load1W x96 K w) (fun v w => eqP v x97 w) w) (fun w => andP (fun w => trueP w) (fun w => andP (fun w => trueP w) (fun w => andP (fun w => trueP w) (fun w => trueP w) w) w) w) w) w) (fun w =>
 gW x93 true (fun K w => binIntW .eql x100 x99 K w) (fun x101 w =>
 pickW x93 x101 (Value.bool false) (fun x102 w =>
 K x102 w) w) w) w) w) w) w) w) w) w) w) w) w) w) w) w) w) w) w) w) w) w) w) w) w) w) w) w) w) w) w) w) (fun w => K (Value.bool false) w) w) w) w) (fun j6 w =>
 condP x69 (fun w => j6 x69 w) (fun w => binIntW .eql x68 (Value.int .i64 6) (fun x103 w =>
 j6 x103 w) w) w) w) w) w) w) w) w) w) w) w) w) w) w) w) w) w) w) w) w) w) w) w) w) w) w) w) w

/-- law24_ExtendStands -/
def S_law24_ExtendStands (a0 a1 a2 a3 a4 : Value) (K : KV) : World → Prop := fun w =>
 CP Try.prog Fn.law24_ExtendRuns [] (fun x1 w =>
 notW x1 (fun x2 w =>
 condP x2 (fun w => K (Value.bool false) w) (fun w => lenW a1 (fun x3 w =>
 binIntW .gtr x3 (Value.int .i64 16) (fun x4 w =>
 condP x4 (fun w => K (Value.bool true) w) (fun w => convW .u64 a4 (fun x5 w =>
 buildW [(Value.int .i64 0), (Value.int .i64 0), (Value.int .i64 0), (Value.int .i64 0), (Value.int .u64 0)] [(1, 1, (Value.int .i64 16)), (4, 1, x5)] (fun x6 w =>
 CP Try.prog Fn.mem_New [x6] (fun x7 w =>
 eqNilW .eql x7 (Value.pointer none) (fun x8 w =>
 condP x8 (fun w => K (Value.bool false) w) (fun w => loopW1 (Value.int .i64 0) (fun J1 x9 w =>
 lenW a0 (fun x10 w =>
 binIntW .lss x9 x10 (fun x11 w =>
 gW x11 true (fun K w => K x9 w) (fun x12 w =>
 gW x11 true (fun K w => binIntW .lss x12 (Value.int .i64 16) K w) (fun x13 w =>
 pickW x11 x13 (Value.bool false) (fun x14 w =>
 condP x14 (fun w => idxW 1 a0 x9 (fun x15 w =>
 load1W x15 (fun x16 w =>
 binIntW .rem x16 (Value.int .u8 2) (fun x17 w =>
 convW .u64 x17 (fun x18 w =>
 buildW [(Value.int .u64 0), (Value.bool false), (Value.int .i64 0)] [(0, 1, x18)] (fun x19 w =>
 buildW [(Value.int .i64 0), (Value.int .i64 0), (Value.int .u64 0), (Value.int .u64 0), (Value.int .u64 0), (Value.bool false), (Value.int .i64 0), (Value.int .u64 0), (Value.bool false), (Value.int .i64 0)] [(0, 1, (Value.int .i64 5)), (1, 1, x9), (7, 3, x19)] (fun x20 w =>
 CP Try.prog Fn.mem_Mem_Do [x7, x20] (fun x21 w =>
 binIntW .add x9 (Value.int .i64 1) (fun x22 w =>
 J1 x22 w) w) w) w) w) w) w) w) w) (fun w => binIntW .rem a3 (Value.int .u8 4) (fun x23 w =>
 convW .i64 x23 (fun x24 w =>
 binIntW .lss a2 (Value.int .u8 16) (fun x25 w =>
 joinW0 (fun  w =>
 loopW3 (Value.slice none 0 0) (Value.bool false) (Value.int .i64 0) (fun J2 x26 x27 x28 w =>
 lenW a1 (fun x29 w =>
 binIntW .lss x28 x29 (fun x30 w =>
 condP x30 (fun w => drewW (fun w => idxW 2 a1 x28 (fun x31 w =>
 addW 0 x31 (fun x32 w =>
 load1W x32 (fun x33 w =>
 idxW 2 a1 x28 (fun x34 w =>
 addW 1 x34 (fun x35 w =>
 load1W x35 (fun x36 w =>
 binIntW .rem x36 (Value.int .u64 2) (fun x37 w =>
 CP Try.prog Fn.book_Within [x33, (Value.int .i64 0), (Value.int .i64 15)] (fun x38 w =>
 andP (fun w => andP (fun w => load1W x35 (fun v w => eqP v x36 w) w) (fun w => andP (fun w => trueP w) (fun w => trueP w) w) w) (fun w =>
 buildW [(Value.int .i64 0), (Value.int .u64 0)] [(0, 1, x38), (1, 1, x37)] (fun x39 w =>
 buildSliceW [(Value.int .i64 0), (Value.int .u64 0)] 1 [(0, 2, x39)] (fun x40 w =>
 andP (fun w => andP (fun w => trueP w) (fun w => trueP w) w) (fun w =>
 appendW 2 16 x26 x40 (fun x41 w =>
 andP (fun w => trueP w) (fun w =>
 gW x27 false (fun K w => K a2 w) (fun x42 w =>
 gW x27 false (fun K w => binIntW .lss x42 (Value.int .u8 16) K w) (fun x43 w =>
 gW x27 false (fun K w => K x43 w) (fun x44 w =>
 gW x44 true (fun K w => K x41 w) (fun x45 w =>
 gW x44 true (fun K w => K x28 w) (fun x46 w =>
 gW x44 true (fun K w => idxW 2 x45 x46 K w) (fun x47 w =>
 gW x44 true (fun K w => addW 0 x47 K w) (fun x48 w =>
 gW x44 true (fun K w => load1W x48 K w) (fun x49 w =>
 gW x44 true (fun K w => K a2 w) (fun x50 w =>
 gW x44 true (fun K w => convW .i64 x50 K w) (fun x51 w =>
 gW x44 true (fun K w => binIntW .eql x49 x51 K w) (fun x52 w =>
 gW x27 false (fun K w => pickW x44 x52 (Value.bool false) K w) (fun x53 w =>
 gW x27 false (fun K w => K x53 w) (fun x54 w =>
 gW x54 true (fun K w => K x24 w) (fun x55 w =>
 gW x54 true (fun K w => binIntW .gtr x55 (Value.int .i64 1) K w) (fun x56 w =>
 gW x27 false (fun K w => pickW x54 x56 (Value.bool false) K w) (fun x57 w =>
 pickW x27 (Value.bool true) x57 (fun x58 w =>
 binIntW .add x28 (Value.int .i64 1) (fun x59 w =>
 J2 x41 x58 x59 w) w) w) w) w) w) w) w) w) w) w) w) w) w) w) w) w) w) w) w) w) w) w) w) w) w) w) w) w) w) w) w) w) w) (fun w => CP Try.prog Fn.mem_Mem_Locks [x7] (fun x60 w =>
 CP Try.prog Fn.extend_New [(Value.int .i64 1), (Value.int .i64 3), x26] (fun x61 w =>
 eqNilW .eql x61 (Value.pointer none) (fun x62 w =>
 condP x62 (fun w => K (Value.bool false) w) (fun w => joinW1 (fun x63 w =>
 CP Try.prog Fn.mem_Mem_Locks [x7] (fun x64 w =>
 CP Try.prog Fn.book_Same_api_Lock [x64, x60] (fun x65 w =>
 notW x65 (fun x66 w =>
 gW x66 false (fun K w => K x7 w) (fun x67 w =>
 gW x66 false (fun K w => CP Try.prog Fn.mem_Mem_Now [x67] K w) (fun x68 w =>
 gW x66 false (fun K w => K a4 w) (fun x69 w =>
 gW x66 false (fun K w => convW .u64 x69 K w) (fun x70 w =>
 gW x66 false (fun K w => binIntW .neq x68 x70 K w) (fun x71 w =>
 pickW x66 (Value.bool true) x71 (fun x72 w =>
 condP x72 (fun w => K (Value.bool false) w) (fun w => CP Try.prog Fn.ref7_Stands [x26, x60] (fun x73 w =>
 CP Try.prog Fn.extend_Extend_End [x61] (fun x74 w =>
 binIntW .eql x74 (Value.int .i64 2) (fun x75 w =>
 condP x75 (fun w => gW x73 true (fun K w => K x61 w) (fun x76 w =>
 gW x73 true (fun K w => CP Try.prog Fn.extend_Extend_Stamp [x76] K w) (fun x77 w =>
 gW x73 true (fun K w => K a4 w) (fun x78 w =>
 gW x73 true (fun K w => convW .u64 x78 K w) (fun x79 w =>
 gW x73 true (fun K w => binIntW .eql x77 x79 K w) (fun x80 w =>
 pickW x73 x80 (Value.bool false) (fun x81 w =>
 gW x81 true (fun K w => K x63 w) (fun x82 w =>
 gW x81 true (fun K w => K x26 w) (fun x83 w =>
 gW x81 true (fun K w => lenW x83 K w) (fun x84 w =>
 gW x81 true (fun K w => binIntW .add x84 (Value.int .i64 1) K w) (fun x85 w =>
 gW x81 true (fun K w => binIntW .eql x82 x85 K w) (fun x86 w =>
 pickW x81 x86 (Value.bool false) (fun x87 w =>
 K x87 w) w) w) w) w) w) w) w) w) w) w) w) w) (fun w => binIntW .eql x74 (Value.int .i64 5) (fun x88 w =>
 condP x88 (fun w => notW x73 (fun x89 w =>
 gW x89 true (fun K w => K x61 w) (fun x90 w =>
 gW x89 true (fun K w => CP Try.prog Fn.extend_Extend_Stamp [x90] K w) (fun x91 w =>
 gW x89 true (fun K w => binIntW .eql x91 (Value.int .u64 0) K w) (fun x92 w =>
 pickW x89 x92 (Value.bool false) (fun x93 w =>
 K x93 w) w) w) w) w) w) (fun w => gW x27 true (fun K w => K x63 w) (fun x94 w =>
 gW x27 true (fun K w => binIntW .eql x94 (Value.int .i64 60) K w) (fun x95 w =>
 pickW x27 x95 (Value.bool false) (fun x96 w =>
 gW x96 true (fun K w => K x61 w) (fun x97 w =>
 gW x96 true (fun K w => CP Try.prog Fn.extend_Extend_End [x97] K w) (fun x98 w =>
 gW x96 true (fun K w => binIntW .eql x98 (Value.int .i64 0) K w) (fun x99 w =>
 pickW x96 x99 (Value.bool false) (fun x100 w =>
 K x100 w) w) w) w) w) w) w) w) w) w) w) w) w) w) w) w) w) w) w) w) w) w) w) w) (fun j2 w =>
 loopW1 (Value.int .i64 0) (fun J3 x101 w =>
 binIntW .lss x101 (Value.int .i64 60) (fun x102 w =>
 condP x102 (fun w => CP Try.prog Fn.extend_Extend_Next [x61] (fun x103 w =>
 extractW 0 x103 (fun x104 w =>
 extractW 1 x103 (fun x105 w =>
 newW #[(Value.int .i64 0), (Value.int .i64 0), (Value.int .u64 0), (Value.int .u64 0), (Value.int .u64 0), (Value.bool false), (Value.int .i64 0), (Value.int .u64 0), (Value.bool false), (Value.int .i64 0)] (fun x106 w =>
 storeW 10 x106 x104 (fun _ w =>
 notW x105 (fun x108 w =>
 condP x108 (fun w => j2 x101 w) (fun w => loadNW 10 x106 (fun x109 w =>
 CP Try.prog Fn.mem_Mem_Do [x7, x109] (fun x110 w =>
 CP Try.prog Fn.extend_Extend_Tell [x61, x110] (fun x111 w =>
 binIntW .add x101 (Value.int .i64 1) (fun x112 w =>
 J3 x112 w) w) w) w) w) w) w) w) w) w) w) w) (fun w => j2 x101 w) w) w) w) w) w) w) w) w) w) w) w) w) (fun j1 w =>
 condP x25 (fun w => convW .i64 a2 (fun x113 w =>
 buildW [(Value.int .u64 0), (Value.bool false), (Value.int .i64 0)] [(1, 1, (Value.bool true)), (2, 1, x24)] (fun x114 w =>
 buildW [(Value.int .i64 0), (Value.int .i64 0), (Value.int .u64 0), (Value.int .u64 0), (Value.int .u64 0), (Value.bool false), (Value.int .i64 0), (Value.int .u64 0), (Value.bool false), (Value.int .i64 0)] [(0, 1, (Value.int .i64 5)), (1, 1, x113), (7, 3, x114)] (fun x115 w =>
 CP Try.prog Fn.mem_Mem_Do [x7, x115] (fun x116 w =>
 j1  w) w) w) w) w) (fun w => j1  w) w) w) w) w) w) w) w) w) w) w) w) w) w) w) w) w) w) w) w) w) w) w) w

/-- stripe_New -/
def S_stripe_New (a0 a1 : Value) (K : KV) : World → Prop := fun w =>
 drewW (fun w => CP Try.prog Fn.stripe_near [a0, (Value.int .i64 16)] (fun x1 w =>
 andP (fun w => trueP w) (fun w =>
 andP (fun w => makeSliceW 24 [(Value.int .u64 0), (Value.bool false), (Value.int .i64 0)] x1 x1 (fun x2 w =>
 andP (fun w => trueP w) (fun w =>
 CP Try.prog Fn.stripe_near [a1, (Value.int .i64 16)] (fun x3 w =>
 andP (fun w => trueP w) (fun w =>
 buildW [(Value.slice none 0 0), (Value.int .i64 0)] [(0, 1, x2), (1, 1, x3)] (fun x4 w =>
 boxW x4 (fun x5 w =>
 andP (fun w => trueP w) (fun w =>
 K x5 w) w) w) w) w) w) w) w) (fun w => CP Try.prog Fn.stripe_near [a1, (Value.int .i64 16)] (fun x6 w =>
 andP (fun w => trueP w) (fun w =>
 makeSliceW 24 [(Value.int .u64 0), (Value.bool false), (Value.int .i64 0)] x1 x1 (fun x7 w =>
 andP (fun w => trueP w) (fun w =>
 buildW [(Value.slice none 0 0), (Value.int .i64 0)] [(0, 1, x7), (1, 1, x6)] (fun x8 w =>
 boxW x8 (fun x9 w =>
 andP (fun w => trueP w) (fun w =>
 K x9 w) w) w) w) w) w) w) w) w) w) w) w

/-- stripe_Table_Cas -/
def S_stripe_Table_Cas (a0 a1 a2 a3 : Value) (K : KV) : World → Prop := fun w =>
 boxW a2 (fun x1 w =>
 boxW a3 (fun x2 w =>
 loadNW 3 x2 (fun x3 w =>
 CP Try.prog Fn.stripe_Table_may [a0, a1, x3] (fun x4 w =>
 binIntW .neq x4 (Value.int .i64 0) (fun x5 w =>
 condP x5 (fun w => K (Value.tuple #[(Value.bool false), x4]) w) (fun w => drewW (fun w => nilW a0 (fun x6 w =>
 addW 0 x6 (fun x7 w =>
 load1W x7 (fun x8 w =>
 idxW 3 x8 a1 (fun x9 w =>
 loadNW 3 x9 (fun x10 w =>
 loadNW 3 x1 (fun x11 w =>
 eqAggW [.i .u64, .b, .i .i64] .neq x10 x11 (fun x12 w =>
 condP x12 (fun w => K (Value.tuple #[(Value.bool false), (Value.int .i64 0)]) w) (fun w => drewW (fun w => nilW a0 (fun x13 w =>
 addW 0 x13 (fun x14 w =>
 load1W x14 (fun x15 w =>
 loadNW 3 x2 (fun x16 w =>
 idxW 3 x15 a1 (fun x17 w =>
 storeW 3 x17 x16 (fun _ w =>
 andP (fun w => andP (fun w => trueP w) (fun w => andP (fun w => trueP w) (fun w => trueP w) w) w) (fun w =>
 K (Value.tuple #[(Value.bool true), (Value.int .i64 0)]) w) w) w) w) w) w) w) w) w) w) w) w) w) w) w) w) w) w) w) w) w) w) w) w

/-- stripe_Table_Load -/
def S_stripe_Table_Load (a0 a1 : Value) (K : KV) : World → Prop := fun w =>
 newW #[(Value.int .u64 0), (Value.bool false), (Value.int .i64 0)] (fun x1 w =>
 CP Try.prog Fn.stripe_Table_is [a0, a1] (fun x2 w =>
 notW x2 (fun x3 w =>
 condP x3 (fun w => buildW [(Value.int .u64 0), (Value.bool false), (Value.int .i64 0)] [] (fun x4 w =>
 storeW 3 x1 x4 (fun _ w =>
 loadNW 3 x1 (fun x6 w =>
 K (Value.tuple #[x6, (Value.int .i64 2)]) w) w) w) w) (fun w => nilW a0 (fun x7 w =>
 addW 0 x7 (fun x8 w =>
 load1W x8 (fun x9 w =>
 idxW 3 x9 a1 (fun x10 w =>
 loadNW 3 x10 (fun x11 w =>
 storeW 3 x1 x11 (fun _ w =>
 loadNW 3 x1 (fun x13 w =>
 K (Value.tuple #[x13, (Value.int .i64 0)]) w) w) w) w) w) w) w) w) w) w) w) w

/-- stripe_Table_Held -/
def S_stripe_Table_Held (a0 a1 : Value) (K : KV) : World → Prop := fun w =>
 nilW a0 (fun x1 w =>
 addW 0 x1 (fun x2 w =>
 load1W x2 (fun x3 w =>
 lenW x3 (fun x4 w =>
 loopW2 (Value.slice none 0 0) (Value.int .i64 0) (fun J1 x5 x6 w =>
 binIntW .lss x6 x4 (fun x7 w =>
 condP x7 (fun w => idxW 3 x3 x6 (fun x8 w =>
 loadNW 3 x8 (fun x9 w =>
 newW #[(Value.int .u64 0), (Value.bool false), (Value.int .i64 0)] (fun x10 w =>
 storeW 3 x10 x9 (fun _ w =>
 addW 1 x10 (fun x12 w =>
 load1W x12 (fun x13 w =>
 gW x13 true (fun K w => addW 2 x10 K w) (fun x14 w =>
 gW x13 true (fun K w => load1W x14 K w) (fun x15 w =>
 gW x13 true (fun K w => K a1 w) (fun x16 w =>
 gW x13 true (fun K w => binIntW .eql x15 x16 K w) (fun x17 w =>
 pickW x13 x17 (Value.bool false) (fun x18 w =>
 joinW1 (fun x19 w =>
 binIntW .add x6 (Value.int .i64 1) (fun x20 w =>
 J1 x19 x20 w) w) (fun j1 w =>
 condP x18 (fun w => buildSliceW [(Value.int .i64 0)] 1 [(0, 1, x6)] (fun x21 w =>
 appendW 1 8 x5 x21 (fun x22 w =>
 j1 x22 w) w) w) (fun w => j1 x5 w) w) w) w) w) w) w) w) w) w) w) w) w) w) (fun w => K x5 w) w) w) w) w) w) w) w

/-- stripe_Table_Of -/
def S_stripe_Table_Of (a0 a1 : Value) (K : KV) : World → Prop := fun w =>
 drewW (fun w => nilW a0 (fun x1 w =>
 addW 0 x1 (fun x2 w =>
 load1W x2 (fun x3 w =>
 lenW x3 (fun x4 w =>
 nilW a0 (fun x5 w =>
 addW 1 x5 (fun x6 w =>
 load1W x6 (fun x7 w =>
 CP Try.prog Fn.stripe_Of [a1, x4, x7] (fun x8 w =>
 andP (fun w => andP (fun w => trueP w) (fun w => andP (fun w => trueP w) (fun w => trueP w) w) w) (fun w =>
 K x8 w) w) w) w) w) w) w) w) w) w) w

/-- stripe_Table_Len -/
def S_stripe_Table_Len (a0 : Value) (K : KV) : World → Prop := fun w =>
 nilW a0 (fun x1 w =>
 addW 0 x1 (fun x2 w =>
 load1W x2 (fun x3 w =>
 lenW x3 (fun x4 w =>
 K x4 w) w) w) w) w

/-- stripe_Table_Copy -/
def S_stripe_Table_Copy (a0 : Value) (K : KV) : World → Prop := fun w =>
 drewW (fun w => nilW a0 (fun x1 w =>
 addW 1 x1 (fun x2 w =>
 load1W x2 (fun x3 w =>
 CP Try.prog Fn.stripe_Table_All [a0] (fun x4 w =>
 andP (fun w => andP (fun w => load1W x2 (fun v w => eqP v x3 w) w) (fun w => trueP w) w) (fun w =>
 buildW [(Value.slice none 0 0), (Value.int .i64 0)] [(0, 1, x4), (1, 1, x3)] (fun x5 w =>
 boxW x5 (fun x6 w =>
 andP (fun w => andP (fun w => trueP w) (fun w => trueP w) w) (fun w =>
 K x6 w) w) w) w) w) w) w) w) w) w

/-- ref1_Of -/
def S_ref1_Of (a0 a1 a2 : Value) (K : KV) : World → Prop := fun w =>
 binIntW .lss a0 (Value.int .i64 0) (fun x1 w =>
 condP x1 (fun w => K (Value.int .i64 (-1)) w) (fun w => drewW (fun w => CP Try.prog Fn.ref1_Held [a2, (Value.int .i64 1), (Value.int .i64 16)] (fun x2 w =>
 andP (fun w => trueP w) (fun w =>
 binIntW .quo a0 x2 (fun x3 w =>
 CP Try.prog Fn.ref1_Held [a1, (Value.int .i64 1), (Value.int .i64 16)] (fun x4 w =>
 andP (fun w => trueP w) (fun w =>
 binIntW .rem x3 x4 (fun x5 w =>
 K x5 w) w) w) w) w) w) w) w) w) w

/-- stripe_Of -/
def S_stripe_Of (a0 a1 a2 : Value) (K : KV) : World → Prop := fun w =>
 binIntW .lss a0 (Value.int .i64 0) (fun x1 w =>
 condP x1 (fun w => K (Value.int .i64 (-1)) w) (fun w => drewW (fun w => CP Try.prog Fn.stripe_near [a2, (Value.int .i64 16)] (fun x2 w =>
 andP (fun w => trueP w) (fun w =>
 binIntW .quo a0 x2 (fun x3 w =>
 CP Try.prog Fn.stripe_near [a1, (Value.int .i64 16)] (fun x4 w =>
 andP (fun w => trueP w) (fun w =>
 binIntW .rem x3 x4 (fun x5 w =>
 K x5 w) w) w) w) w) w) w) w) w) w

/-- extend_New -/
def S_extend_New (a0 a1 a2 : Value) (K : KV) : World → Prop := fun w =>
 CP Try.prog Fn.patience_New [a0, a1] (fun x1 w =>
 CP Try.prog Fn.slices_Clone_api_Seen_api_Seen [a2] (fun x2 w =>
 buildW [(Value.int .i64 0), (Value.int .i64 0), (Value.int .i64 0), (Value.int .i64 0), (Value.int .i64 0), (Value.slice none 0 0), (Value.bool false), (Value.int .i64 0), (Value.int .u64 0)] [(0, 5, x1), (5, 1, x2)] (fun x3 w =>
 boxW x3 (fun x4 w =>
 K x4 w) w) w) w) w

/-- extend_Extend_Next -/
def S_extend_Extend_Next (a0 : Value) (K : KV) : World → Prop := fun w =>
 newW #[(Value.int .i64 0), (Value.int .i64 0), (Value.int .u64 0), (Value.int .u64 0), (Value.int .u64 0), (Value.bool false), (Value.int .i64 0), (Value.int .u64 0), (Value.bool false), (Value.int .i64 0)] (fun x1 w =>
 nilW a0 (fun x2 w =>
 addW 0 x2 (fun x3 w =>
 CP Try.prog Fn.patience_Patience_End [x3] (fun x4 w =>
 binIntW .neq x4 (Value.int .i64 0) (fun x5 w =>
 condP x5 (fun w => buildW [(Value.int .i64 0), (Value.int .i64 0), (Value.int .u64 0), (Value.int .u64 0), (Value.int .u64 0), (Value.bool false), (Value.int .i64 0), (Value.int .u64 0), (Value.bool false), (Value.int .i64 0)] [] (fun x6 w =>
 storeW 10 x1 x6 (fun _ w =>
 loadNW 10 x1 (fun x8 w =>
 K (Value.tuple #[x8, (Value.bool false)]) w) w) w) w) (fun w => nilW a0 (fun x9 w =>
 addW 6 x9 (fun x10 w =>
 load1W x10 (fun x11 w =>
 notW x11 (fun x12 w =>
 condP x12 (fun w => buildW [(Value.int .i64 0), (Value.int .i64 0), (Value.int .u64 0), (Value.int .u64 0), (Value.int .u64 0), (Value.bool false), (Value.int .i64 0), (Value.int .u64 0), (Value.bool false), (Value.int .i64 0)] [(0, 1, (Value.int .i64 6))] (fun x13 w =>
 storeW 10 x1 x13 (fun _ w =>
 loadNW 10 x1 (fun x15 w =>
 K (Value.tuple #[x15, (Value.bool true)]) w) w) w) w) (fun w => drewW (fun w => nilW a0 (fun x16 w =>
 addW 5 x16 (fun x17 w =>
 load1W x17 (fun x18 w =>
 nilW a0 (fun x19 w =>
 addW 7 x19 (fun x20 w =>
 load1W x20 (fun x21 w =>
 idxW 2 x18 x21 (fun x22 w =>
 addW 0 x22 (fun x23 w =>
 load1W x23 (fun x24 w =>
 buildW [(Value.int .i64 0), (Value.int .i64 0), (Value.int .u64 0), (Value.int .u64 0), (Value.int .u64 0), (Value.bool false), (Value.int .i64 0), (Value.int .u64 0), (Value.bool false), (Value.int .i64 0)] [(0, 1, (Value.int .i64 3)), (1, 1, x24)] (fun x25 w =>
 storeW 10 x1 x25 (fun _ w =>
 andP (fun w => andP (fun w => trueP w) (fun w => andP (fun w => trueP w) (fun w => andP (fun w => trueP w) (fun w => trueP w) w) w) w) (fun w =>
 loadNW 10 x1 (fun x27 w =>
 K (Value.tuple #[x27, (Value.bool true)]) w) w) w) w) w) w) w) w) w) w) w) w) w) w) w) w) w) w) w) w) w) w) w) w) w) w

/-- extend_Extend_Tell -/
def S_extend_Extend_Tell (a0 a1 : Value) (K : KV) : World → Prop := fun w =>
 boxW a1 (fun x1 w =>
 drewW (fun w => nilW a0 (fun x2 w =>
 addW 0 x2 (fun x3 w =>
 loadNW 6 x1 (fun x4 w =>
 CP Try.prog Fn.patience_Patience_Stopped [x3, x4] (fun x5 w =>
 andP (fun w => andP (fun w => trueP w) (fun w => trueP w) w) (fun w =>
 condP x5 (fun w => K (Value.tuple #[]) w) (fun w => nilW a0 (fun x6 w =>
 addW 6 x6 (fun x7 w =>
 load1W x7 (fun x8 w =>
 notW x8 (fun x9 w =>
 joinW0 (fun  w =>
 drewW (fun w => nilW a0 (fun x10 w =>
 addW 7 x10 (fun x11 w =>
 load1W x11 (fun x12 w =>
 nilW a0 (fun x13 w =>
 addW 5 x13 (fun x14 w =>
 load1W x14 (fun x15 w =>
 lenW x15 (fun x16 w =>
 binIntW .eql x12 x16 (fun x17 w =>
 joinW0 (fun  w =>
 K (Value.tuple #[]) w) (fun j2 w =>
 condP x17 (fun w => nilW a0 (fun x18 w =>
 addW 0 x18 (fun x19 w =>
 CP Try.prog Fn.patience_Patience_Stop [x19, (Value.int .i64 2), (Value.int .i64 0), (Value.int .i64 (-1))] (fun x20 w =>
 j2  w) w) w) w) (fun w => j2  w) w) w) w) w) w) w) w) w) w) w) w) (fun j1 w =>
 condP x9 (fun w => drewW (fun w => addW 0 x1 (fun x21 w =>
 load1W x21 (fun x22 w =>
 nilW a0 (fun x23 w =>
 addW 6 x23 (fun x24 w =>
 storeW 1 x24 (Value.bool true) (fun _ w =>
 andP (fun w => andP (fun w => load1W x21 (fun v w => eqP v x22 w) w) (fun w => trueP w) w) (fun w =>
 nilW a0 (fun x26 w =>
 addW 8 x26 (fun x27 w =>
 storeW 1 x27 x22 (fun _ w =>
 andP (fun w => andP (fun w => trueP w) (fun w => trueP w) w) (fun w =>
 j1  w) w) w) w) w) w) w) w) w) w) w) w) (fun w => addW 1 x1 (fun x29 w =>
 addW 1 x29 (fun x30 w =>
 load1W x30 (fun x31 w =>
 condP x31 (fun w => drewW (fun w => nilW a0 (fun x32 w =>
 addW 0 x32 (fun x33 w =>
 addW 1 x1 (fun x34 w =>
 loadNW 3 x34 (fun x35 w =>
 CP Try.prog Fn.patience_Patience_Waits [x33, x35] (fun x36 w =>
 andP (fun w => andP (fun w => trueP w) (fun w => trueP w) w) (fun w =>
 notW x36 (fun x37 w =>
 joinW0 (fun  w =>
 K (Value.tuple #[]) w) (fun j3 w =>
 condP x37 (fun w => drewW (fun w => nilW a0 (fun x38 w =>
 addW 0 x38 (fun x39 w =>
 addW 1 x1 (fun x40 w =>
 addW 2 x40 (fun x41 w =>
 load1W x41 (fun x42 w =>
 CP Try.prog Fn.patience_Patience_Stop [x39, (Value.int .i64 5), (Value.int .i64 0), x42] (fun x43 w =>
 andP (fun w => andP (fun w => trueP w) (fun w => trueP w) w) (fun w =>
 j3  w) w) w) w) w) w) w) w) w) (fun w => j3  w) w) w) w) w) w) w) w) w) w) w) (fun w => drewW (fun w => addW 1 x1 (fun x44 w =>
 addW 0 x44 (fun x45 w =>
 load1W x45 (fun x46 w =>
 nilW a0 (fun x47 w =>
 addW 5 x47 (fun x48 w =>
 load1W x48 (fun x49 w =>
 nilW a0 (fun x50 w =>
 addW 7 x50 (fun x51 w =>
 load1W x51 (fun x52 w =>
 idxW 2 x49 x52 (fun x53 w =>
 addW 1 x53 (fun x54 w =>
 load1W x54 (fun x55 w =>
 binIntW .neq x46 x55 (fun x56 w =>
 condP x56 (fun w => nilW a0 (fun x57 w =>
 addW 0 x57 (fun x58 w =>
 CP Try.prog Fn.patience_Patience_Stop [x58, (Value.int .i64 5), (Value.int .i64 0), (Value.int .i64 (-1))] (fun x59 w =>
 K (Value.tuple #[]) w) w) w) w) (fun w => nilW a0 (fun x60 w =>
 addW 7 x60 (fun x61 w =>
 load1W x61 (fun x62 w =>
 binIntW .add x62 (Value.int .i64 1) (fun x63 w =>
 nilW a0 (fun x64 w =>
 addW 7 x64 (fun x65 w =>
 storeW 1 x65 x63 (fun _ w =>
 j1  w) w) w) w) w) w) w) w) w) w) w) w) w) w) w) w) w) w) w) w) w) w) w) w) w) w) w) w) w) w) w) w) w) w) w) w) w) w) w) w) w

/-- extend_Extend_End -/
def S_extend_Extend_End (a0 : Value) (K : KV) : World → Prop := fun w =>
 nilW a0 (fun x1 w =>
 addW 0 x1 (fun x2 w =>
 CP Try.prog Fn.patience_Patience_End [x2] (fun x3 w =>
 K x3 w) w) w) w

/-- extend_Extend_Stamp -/
def S_extend_Extend_Stamp (a0 : Value) (K : KV) : World → Prop := fun w =>
 CP Try.prog Fn.extend_Extend_End [a0] (fun x1 w =>
 binIntW .neq x1 (Value.int .i64 2) (fun x2 w =>
 condP x2 (fun w => K (Value.int .u64 0) w) (fun w => nilW a0 (fun x3 w =>
 addW 8 x3 (fun x4 w =>
 load1W x4 (fun x5 w =>
 K x5 w) w) w) w) w) w) w

/-- extend_Extend_By -/
def S_extend_Extend_By (a0 : Value) (K : KV) : World → Prop := fun w =>
 nilW a0 (fun x1 w =>
 addW 0 x1 (fun x2 w =>
 CP Try.prog Fn.patience_Patience_By [x2] (fun x3 w =>
 K x3 w) w) w) w

/-- fetch_New -/
def S_fetch_New (a0 a1 a2 a3 a4 : Value) (K : KV) : World → Prop := fun w =>
 CP Try.prog Fn.patience_New [a0, a3] (fun x1 w =>
 buildW [(Value.int .i64 0), (Value.int .i64 0), (Value.int .i64 0), (Value.int .i64 0), (Value.int .i64 0), (Value.int .i64 0), (Value.int .i64 0), (Value.int .u64 0), (Value.int .i64 0), (Value.int .u64 0), (Value.bool false), (Value.int .i64 0), (Value.int .u64 0)] [(0, 5, x1), (5, 1, a1), (6, 1, a2), (7, 1, a4)] (fun x2 w =>
 boxW x2 (fun x3 w =>
 K x3 w) w) w) w

/-- fetch_Fetch_Next -/
def S_fetch_Fetch_Next (a0 : Value) (K : KV) : World → Prop := fun w =>
 newW #[(Value.int .i64 0), (Value.int .i64 0), (Value.int .u64 0), (Value.int .u64 0), (Value.int .u64 0), (Value.bool false), (Value.int .i64 0), (Value.int .u64 0), (Value.bool false), (Value.int .i64 0)] (fun x1 w =>
 nilW a0 (fun x2 w =>
 addW 0 x2 (fun x3 w =>
 CP Try.prog Fn.patience_Patience_End [x3] (fun x4 w =>
 binIntW .neq x4 (Value.int .i64 0) (fun x5 w =>
 condP x5 (fun w => buildW [(Value.int .i64 0), (Value.int .i64 0), (Value.int .u64 0), (Value.int .u64 0), (Value.int .u64 0), (Value.bool false), (Value.int .i64 0), (Value.int .u64 0), (Value.bool false), (Value.int .i64 0)] [] (fun x6 w =>
 storeW 10 x1 x6 (fun _ w =>
 loadNW 10 x1 (fun x8 w =>
 K (Value.tuple #[x8, (Value.bool false)]) w) w) w) w) (fun w => nilW a0 (fun x9 w =>
 addW 8 x9 (fun x10 w =>
 load1W x10 (fun x11 w =>
 binIntW .eql x11 (Value.int .i64 1) (fun x12 w =>
 condP x12 (fun w => nilW a0 (fun x13 w =>
 addW 5 x13 (fun x14 w =>
 load1W x14 (fun x15 w =>
 buildW [(Value.int .i64 0), (Value.int .i64 0), (Value.int .u64 0), (Value.int .u64 0), (Value.int .u64 0), (Value.bool false), (Value.int .i64 0), (Value.int .u64 0), (Value.bool false), (Value.int .i64 0)] [(0, 1, (Value.int .i64 1)), (1, 1, x15)] (fun x16 w =>
 storeW 10 x1 x16 (fun _ w =>
 loadNW 10 x1 (fun x18 w =>
 K (Value.tuple #[x18, (Value.bool true)]) w) w) w) w) w) w) w) (fun w => nilW a0 (fun x19 w =>
 addW 6 x19 (fun x20 w =>
 load1W x20 (fun x21 w =>
 buildW [(Value.int .i64 0), (Value.int .i64 0), (Value.int .u64 0), (Value.int .u64 0), (Value.int .u64 0), (Value.bool false), (Value.int .i64 0), (Value.int .u64 0), (Value.bool false), (Value.int .i64 0)] [(0, 1, (Value.int .i64 3)), (1, 1, x21)] (fun x22 w =>
 storeW 10 x1 x22 (fun _ w =>
 loadNW 10 x1 (fun x24 w =>
 K (Value.tuple #[x24, (Value.bool true)]) w) w) w) w) w) w) w) w) w) w) w) w) w) w) w) w) w) w

/-- fetch_Fetch_Tell -/
def S_fetch_Fetch_Tell (a0 a1 : Value) (K : KV) : World → Prop := fun w =>
 boxW a1 (fun x1 w =>
 drewW (fun w => nilW a0 (fun x2 w =>
 addW 0 x2 (fun x3 w =>
 loadNW 6 x1 (fun x4 w =>
 CP Try.prog Fn.patience_Patience_Stopped [x3, x4] (fun x5 w =>
 andP (fun w => andP (fun w => trueP w) (fun w => trueP w) w) (fun w =>
 joinW0 (fun  w =>
 K (Value.tuple #[]) w) (fun j1 w =>
 condP x5 (fun w => j1  w) (fun w => nilW a0 (fun x6 w =>
 addW 8 x6 (fun x7 w =>
 load1W x7 (fun x8 w =>
 binIntW .eql x8 (Value.int .i64 1) (fun x9 w =>
 joinW0 (fun  w =>
 j1  w) (fun j2 w =>
 condP x9 (fun w => addW 0 x1 (fun x10 w =>
 load1W x10 (fun x11 w =>
 nilW a0 (fun x12 w =>
 addW 12 x12 (fun x13 w =>
 storeW 1 x13 x11 (fun _ w =>
 nilW a0 (fun x15 w =>
 addW 8 x15 (fun x16 w =>
 storeW 1 x16 (Value.int .i64 2) (fun _ w =>
 j2  w) w) w) w) w) w) w) w) w) (fun w => drewW (fun w => nilW a0 (fun x18 w =>
 addW 8 x18 (fun x19 w =>
 load1W x19 (fun x20 w =>
 binIntW .eql x20 (Value.int .i64 2) (fun x21 w =>
 gW x21 true (fun K w => addW 1 x1 K w) (fun x22 w =>
 gW x21 true (fun K w => loadNW 3 x22 K w) (fun x23 w =>
 gW x21 true (fun K w => K a0 w) (fun x24 w =>
 gW x21 true (fun K w => nilW x24 K w) (fun x25 w =>
 gW x21 true (fun K w => addW 9 x25 K w) (fun x26 w =>
 gW x21 true (fun K w => loadNW 3 x26 K w) (fun x27 w =>
 gW x21 true (fun K w => eqAggW [.i .u64, .b, .i .i64] .eql x23 x27 K w) (fun x28 w =>
 pickW x21 x28 (Value.bool false) (fun x29 w =>
 joinW0 (fun  w =>
 j2  w) (fun j3 w =>
 condP x29 (fun w => nilW a0 (fun x30 w =>
 addW 0 x30 (fun x31 w =>
 CP Try.prog Fn.patience_Patience_Stop [x31, (Value.int .i64 2), (Value.int .i64 0), (Value.int .i64 (-1))] (fun x32 w =>
 j3  w) w) w) w) (fun w => addW 1 x1 (fun x33 w =>
 loadNW 3 x33 (fun x34 w =>
 CP Try.prog Fn.fetch_Fetch_found [a0, x34] (fun x35 w =>
 j3  w) w) w) w) w) w) w) w) w) w) w) w) w) w) w) w) w) w) w) w) w) w) w) w) w) w) w) w) w) w) w) w) w) w

/-- fetch_Fetch_End -/
def S_fetch_Fetch_End (a0 : Value) (K : KV) : World → Prop := fun w =>
 nilW a0 (fun x1 w =>
 addW 0 x1 (fun x2 w =>
 CP Try.prog Fn.patience_Patience_End [x2] (fun x3 w =>
 K x3 w) w) w) w

/-- fetch_Fetch_Word -/
def S_fetch_Fetch_Word (a0 : Value) (K : KV) : World → Prop := fun w =>
 CP Try.prog Fn.fetch_Fetch_End [a0] (fun x1 w =>
 binIntW .neq x1 (Value.int .i64 2) (fun x2 w =>
 condP x2 (fun w => K (Value.int .u64 0) w) (fun w => nilW a0 (fun x3 w =>
 addW 12 x3 (fun x4 w =>
 load1W x4 (fun x5 w =>
 K x5 w) w) w) w) w) w) w

/-- fetch_Fetch_Seen -/
def S_fetch_Fetch_Seen (a0 : Value) (K : KV) : World → Prop := fun w =>
 newW #[(Value.int .i64 0), (Value.int .u64 0)] (fun x1 w =>
 CP Try.prog Fn.fetch_Fetch_End [a0] (fun x2 w =>
 binIntW .neq x2 (Value.int .i64 2) (fun x3 w =>
 condP x3 (fun w => buildW [(Value.int .i64 0), (Value.int .u64 0)] [] (fun x4 w =>
 storeW 2 x1 x4 (fun _ w =>
 loadNW 2 x1 (fun x6 w =>
 K x6 w) w) w) w) (fun w => drewW (fun w => nilW a0 (fun x7 w =>
 addW 6 x7 (fun x8 w =>
 load1W x8 (fun x9 w =>
 nilW a0 (fun x10 w =>
 addW 9 x10 (fun x11 w =>
 addW 0 x11 (fun x12 w =>
 load1W x12 (fun x13 w =>
 buildW [(Value.int .i64 0), (Value.int .u64 0)] [(0, 1, x9), (1, 1, x13)] (fun x14 w =>
 storeW 2 x1 x14 (fun _ w =>
 andP (fun w => andP (fun w => trueP w) (fun w => andP (fun w => trueP w) (fun w => trueP w) w) w) (fun w =>
 loadNW 2 x1 (fun x16 w =>
 K x16 w) w) w) w) w) w) w) w) w) w) w) w) w) w) w) w) w

/-- fetch_Fetch_By -/
def S_fetch_Fetch_By (a0 : Value) (K : KV) : World → Prop := fun w =>
 nilW a0 (fun x1 w =>
 addW 0 x1 (fun x2 w =>
 CP Try.prog Fn.patience_Patience_By [x2] (fun x3 w =>
 K x3 w) w) w) w

/-- book_Within -/
def S_book_Within (a0 a1 a2 : Value) (K : KV) : World → Prop := fun w =>
 binIntW .sub a2 a1 (fun x1 w =>
 binIntW .add x1 (Value.int .i64 1) (fun x2 w =>
 binIntW .rem a0 x2 (fun x3 w =>
 binIntW .lss x3 (Value.int .i64 0) (fun x4 w =>
 joinW1 (fun x5 w =>
 binIntW .add a1 x5 (fun x6 w =>
 K x6 w) w) (fun j1 w =>
 condP x4 (fun w => binIntW .add x3 a2 (fun x7 w =>
 binIntW .sub x7 a1 (fun x8 w =>
 binIntW .add x8 (Value.int .i64 1) (fun x9 w =>
 j1 x9 w) w) w) w) (fun w => j1 x3 w) w) w) w) w) w) w

/-- ref23_NewExtend -/
def S_ref23_NewExtend (a0 a1 a2 : Value) (K : KV) : World → Prop := fun w =>
 CP Try.prog Fn.ref23_begin [a0, a1] (fun x1 w =>
 appendW 2 16 (Value.slice none 0 0) a2 (fun x2 w =>
 buildW [(Value.int .i64 0), (Value.int .i64 0), (Value.int .i64 0), (Value.int .i64 0), (Value.int .i64 0), (Value.slice none 0 0), (Value.int .i64 0), (Value.int .u64 0)] [(0, 5, x1), (5, 1, x2), (6, 1, (Value.int .i64 (-1)))] (fun x3 w =>
 boxW x3 (fun x4 w =>
 K x4 w) w) w) w) w

/-- ref23_Extend_Next -/
def S_ref23_Extend_Next (a0 : Value) (K : KV) : World → Prop := fun w =>
 newW #[(Value.int .i64 0), (Value.int .i64 0), (Value.int .u64 0), (Value.int .u64 0), (Value.int .u64 0), (Value.bool false), (Value.int .i64 0), (Value.int .u64 0), (Value.bool false), (Value.int .i64 0)] (fun x1 w =>
 nilW a0 (fun x2 w =>
 addW 6 x2 (fun x3 w =>
 load1W x3 (fun x4 w =>
 binIntW .lss x4 (Value.int .i64 0) (fun x5 w =>
 condP x5 (fun w => buildW [(Value.int .i64 0), (Value.int .i64 0), (Value.int .u64 0), (Value.int .u64 0), (Value.int .u64 0), (Value.bool false), (Value.int .i64 0), (Value.int .u64 0), (Value.bool false), (Value.int .i64 0)] [(0, 1, (Value.int .i64 6))] (fun x6 w =>
 storeW 10 x1 x6 (fun _ w =>
 loadNW 10 x1 (fun x8 w =>
 K x8 w) w) w) w) (fun w => drewW (fun w => nilW a0 (fun x9 w =>
 addW 5 x9 (fun x10 w =>
 load1W x10 (fun x11 w =>
 nilW a0 (fun x12 w =>
 addW 6 x12 (fun x13 w =>
 load1W x13 (fun x14 w =>
 idxW 2 x11 x14 (fun x15 w =>
 addW 0 x15 (fun x16 w =>
 load1W x16 (fun x17 w =>
 buildW [(Value.int .i64 0), (Value.int .i64 0), (Value.int .u64 0), (Value.int .u64 0), (Value.int .u64 0), (Value.bool false), (Value.int .i64 0), (Value.int .u64 0), (Value.bool false), (Value.int .i64 0)] [(0, 1, (Value.int .i64 3)), (1, 1, x17)] (fun x18 w =>
 storeW 10 x1 x18 (fun _ w =>
 andP (fun w => andP (fun w => trueP w) (fun w => andP (fun w => trueP w) (fun w => andP (fun w => trueP w) (fun w => trueP w) w) w) w) (fun w =>
 loadNW 10 x1 (fun x20 w =>
 K x20 w) w) w) w) w) w) w) w) w) w) w) w) w) w) w) w) w) w) w) w) w

/-- extend_Extend_Err -/
def S_extend_Extend_Err (a0 : Value) (K : KV) : World → Prop := fun w =>
 nilW a0 (fun x1 w =>
 addW 0 x1 (fun x2 w =>
 CP Try.prog Fn.patience_Patience_Err [x2] (fun x3 w =>
 K x3 w) w) w) w

/-- ref23_Extend_Tell -/
def S_ref23_Extend_Tell (a0 a1 : Value) (K : KV) : World → Prop := fun w =>
 boxW a1 (fun x1 w =>
 drewW (fun w => nilW a0 (fun x2 w =>
 addW 0 x2 (fun x3 w =>
 addW 2 x3 (fun x4 w =>
 load1W x4 (fun x5 w =>
 binIntW .neq x5 (Value.int .i64 0) (fun x6 w =>
 gW x6 false (fun K w => K a0 w) (fun x7 w =>
 gW x6 false (fun K w => nilW x7 K w) (fun x8 w =>
 gW x6 false (fun K w => addW 0 x8 K w) (fun x9 w =>
 gW x6 false (fun K w => loadNW 6 x1 K w) (fun x10 w =>
 gW x6 false (fun K w => CP Try.prog Fn.ref23_Step_failed [x9, x10] K w) (fun x11 w =>
 andP (fun w => andP (fun w => trueP w) (fun w => andP (fun w => trueP w) (fun w => trueP w) w) w) (fun w =>
 pickW x6 (Value.bool true) x11 (fun x12 w =>
 condP x12 (fun w => K (Value.tuple #[]) w) (fun w => nilW a0 (fun x13 w =>
 addW 6 x13 (fun x14 w =>
 load1W x14 (fun x15 w =>
 binIntW .lss x15 (Value.int .i64 0) (fun x16 w =>
 joinW0 (fun  w =>
 nilW a0 (fun x17 w =>
 addW 6 x17 (fun x18 w =>
 load1W x18 (fun x19 w =>
 binIntW .add x19 (Value.int .i64 1) (fun x20 w =>
 nilW a0 (fun x21 w =>
 addW 6 x21 (fun x22 w =>
 storeW 1 x22 x20 (fun _ w =>
 drewW (fun w => nilW a0 (fun x24 w =>
 addW 6 x24 (fun x25 w =>
 load1W x25 (fun x26 w =>
 nilW a0 (fun x27 w =>
 addW 5 x27 (fun x28 w =>
 load1W x28 (fun x29 w =>
 lenW x29 (fun x30 w =>
 binIntW .eql x26 x30 (fun x31 w =>
 joinW0 (fun  w =>
 K (Value.tuple #[]) w) (fun j2 w =>
 condP x31 (fun w => nilW a0 (fun x32 w =>
 addW 0 x32 (fun x33 w =>
 addW 2 x33 (fun x34 w =>
 storeW 1 x34 (Value.int .i64 2) (fun _ w =>
 j2  w) w) w) w) w) (fun w => j2  w) w) w) w) w) w) w) w) w) w) w) w) w) w) w) w) w) w) w) (fun j1 w =>
 condP x16 (fun w => addW 0 x1 (fun x36 w =>
 load1W x36 (fun x37 w =>
 nilW a0 (fun x38 w =>
 addW 7 x38 (fun x39 w =>
 storeW 1 x39 x37 (fun _ w =>
 j1  w) w) w) w) w) w) (fun w => addW 1 x1 (fun x41 w =>
 addW 1 x41 (fun x42 w =>
 load1W x42 (fun x43 w =>
 condP x43 (fun w => drewW (fun w => nilW a0 (fun x44 w =>
 addW 0 x44 (fun x45 w =>
 addW 1 x1 (fun x46 w =>
 loadNW 3 x46 (fun x47 w =>
 CP Try.prog Fn.ref23_Step_held [x45, x47] (fun x48 w =>
 andP (fun w => andP (fun w => trueP w) (fun w => trueP w) w) (fun w =>
 K (Value.tuple #[]) w) w) w) w) w) w) w) w) (fun w => drewW (fun w => addW 1 x1 (fun x49 w =>
 addW 0 x49 (fun x50 w =>
 load1W x50 (fun x51 w =>
 nilW a0 (fun x52 w =>
 addW 5 x52 (fun x53 w =>
 load1W x53 (fun x54 w =>
 nilW a0 (fun x55 w =>
 addW 6 x55 (fun x56 w =>
 load1W x56 (fun x57 w =>
 idxW 2 x54 x57 (fun x58 w =>
 addW 1 x58 (fun x59 w =>
 load1W x59 (fun x60 w =>
 binIntW .neq x51 x60 (fun x61 w =>
 condP x61 (fun w => nilW a0 (fun x62 w =>
 addW 0 x62 (fun x63 w =>
 addW 2 x63 (fun x64 w =>
 storeW 1 x64 (Value.int .i64 5) (fun _ w =>
 K (Value.tuple #[]) w) w) w) w) w) (fun w => j1  w) w) w) w) w) w) w) w) w) w) w) w) w) w) w) w) w) w) w) w) w) w) w) w) w) w) w) w) w) w) w) w) w) w) w) w) w) w) w) w) w

/-- ref23_NewFetch -/
def S_ref23_NewFetch (a0 a1 a2 a3 a4 : Value) (K : KV) : World → Prop := fun w =>
 CP Try.prog Fn.ref23_begin [a0, a3] (fun x1 w =>
 buildW [(Value.int .i64 0), (Value.int .i64 0), (Value.int .i64 0), (Value.int .i64 0), (Value.int .i64 0), (Value.int .i64 0), (Value.int .i64 0), (Value.int .u64 0), (Value.int .i64 0), (Value.int .u64 0), (Value.bool false), (Value.int .i64 0), (Value.int .u64 0)] [(0, 5, x1), (5, 1, a1), (6, 1, a2), (7, 1, a4)] (fun x2 w =>
 boxW x2 (fun x3 w =>
 K x3 w) w) w) w

/-- ref23_Fetch_Next -/
def S_ref23_Fetch_Next (a0 : Value) (K : KV) : World → Prop := fun w =>
 newW #[(Value.int .i64 0), (Value.int .i64 0), (Value.int .u64 0), (Value.int .u64 0), (Value.int .u64 0), (Value.bool false), (Value.int .i64 0), (Value.int .u64 0), (Value.bool false), (Value.int .i64 0)] (fun x1 w =>
 nilW a0 (fun x2 w =>
 addW 8 x2 (fun x3 w =>
 load1W x3 (fun x4 w =>
 binIntW .eql x4 (Value.int .i64 1) (fun x5 w =>
 condP x5 (fun w => nilW a0 (fun x6 w =>
 addW 5 x6 (fun x7 w =>
 load1W x7 (fun x8 w =>
 buildW [(Value.int .i64 0), (Value.int .i64 0), (Value.int .u64 0), (Value.int .u64 0), (Value.int .u64 0), (Value.bool false), (Value.int .i64 0), (Value.int .u64 0), (Value.bool false), (Value.int .i64 0)] [(0, 1, (Value.int .i64 1)), (1, 1, x8)] (fun x9 w =>
 storeW 10 x1 x9 (fun _ w =>
 loadNW 10 x1 (fun x11 w =>
 K x11 w) w) w) w) w) w) w) (fun w => nilW a0 (fun x12 w =>
 addW 6 x12 (fun x13 w =>
 load1W x13 (fun x14 w =>
 buildW [(Value.int .i64 0), (Value.int .i64 0), (Value.int .u64 0), (Value.int .u64 0), (Value.int .u64 0), (Value.bool false), (Value.int .i64 0), (Value.int .u64 0), (Value.bool false), (Value.int .i64 0)] [(0, 1, (Value.int .i64 3)), (1, 1, x14)] (fun x15 w =>
 storeW 10 x1 x15 (fun _ w =>
 loadNW 10 x1 (fun x17 w =>
 K x17 w) w) w) w) w) w) w) w) w) w) w) w) w

/-- fetch_Fetch_Err -/
def S_fetch_Fetch_Err (a0 : Value) (K : KV) : World → Prop := fun w =>
 nilW a0 (fun x1 w =>
 addW 0 x1 (fun x2 w =>
 CP Try.prog Fn.patience_Patience_Err [x2] (fun x3 w =>
 K x3 w) w) w) w

/-- law23_near -/
def S_law23_near (a0 a1 : Value) (K : KV) : World → Prop := fun w =>
 boxW a0 (fun x1 w =>
 newW #[(Value.int .u64 0), (Value.int .u64 0), (Value.bool false), (Value.int .i64 0), (Value.bool false), (Value.int .i64 0)] (fun x2 w =>
 condP a1 (fun w => loadNW 6 x1 (fun x3 w =>
 storeW 6 x2 x3 (fun _ w =>
 loadNW 6 x2 (fun x5 w =>
 K x5 w) w) w) w) (fun w => addW 5 x1 (fun x6 w =>
 storeW 1 x6 (Value.int .i64 0) (fun _ w =>
 addW 1 x1 (fun x8 w =>
 addW 0 x8 (fun x9 w =>
 load1W x9 (fun x10 w =>
 binIntW .rem x10 (Value.int .u64 7) (fun x11 w =>
 addW 1 x1 (fun x12 w =>
 addW 0 x12 (fun x13 w =>
 storeW 1 x13 x11 (fun _ w =>
 addW 1 x1 (fun x15 w =>
 addW 2 x15 (fun x16 w =>
 load1W x16 (fun x17 w =>
 CP Try.prog Fn.book_Within [x17, (Value.int .i64 0), (Value.int .i64 3)] (fun x18 w =>
 addW 1 x1 (fun x19 w =>
 addW 2 x19 (fun x20 w =>
 storeW 1 x20 x18 (fun _ w =>
 addW 1 x1 (fun x22 w =>
 addW 1 x22 (fun x23 w =>
 load1W x23 (fun x24 w =>
 notW x24 (fun x25 w =>
 gW x25 false (fun K w => addW 0 x1 K w) (fun x26 w =>
 gW x25 false (fun K w => load1W x26 K w) (fun x27 w =>
 gW x25 false (fun K w => binIntW .rem x27 (Value.int .u64 4) K w) (fun x28 w =>
 gW x25 false (fun K w => binIntW .gtr x28 (Value.int .u64 0) K w) (fun x29 w =>
 pickW x25 (Value.bool true) x29 (fun x30 w =>
 joinW0 (fun  w =>
 loadNW 6 x1 (fun x31 w =>
 storeW 6 x2 x31 (fun _ w =>
 loadNW 6 x2 (fun x33 w =>
 K x33 w) w) w) w) (fun j1 w =>
 condP x30 (fun w => addW 1 x1 (fun x34 w =>
 addW 1 x34 (fun x35 w =>
 storeW 1 x35 (Value.bool false) (fun _ w =>
 addW 1 x1 (fun x37 w =>
 addW 2 x37 (fun x38 w =>
 storeW 1 x38 (Value.int .i64 0) (fun _ w =>
 j1  w) w) w) w) w) w) w) (fun w => j1  w) w) w) w) w) w) w) w) w) w) w) w) w) w) w) w) w) w) w) w) w) w) w) w) w) w) w) w) w) w) w

/-- ref23_Fetch_Tell -/
def S_ref23_Fetch_Tell (a0 a1 : Value) (K : KV) : World → Prop := fun w =>
 boxW a1 (fun x1 w =>
 drewW (fun w => nilW a0 (fun x2 w =>
 addW 0 x2 (fun x3 w =>
 addW 2 x3 (fun x4 w =>
 load1W x4 (fun x5 w =>
 binIntW .neq x5 (Value.int .i64 0) (fun x6 w =>
 gW x6 false (fun K w => K a0 w) (fun x7 w =>
 gW x6 false (fun K w => nilW x7 K w) (fun x8 w =>
 gW x6 false (fun K w => addW 0 x8 K w) (fun x9 w =>
 gW x6 false (fun K w => loadNW 6 x1 K w) (fun x10 w =>
 gW x6 false (fun K w => CP Try.prog Fn.ref23_Step_failed [x9, x10] K w) (fun x11 w =>
 andP (fun w => andP (fun w => trueP w) (fun w => andP (fun w => trueP w) (fun w => trueP w) w) w) (fun w =>
 pickW x6 (Value.bool true) x11 (fun x12 w =>
 condP x12 (fun w => K (Value.tuple #[]) w) (fun w => nilW a0 (fun x13 w =>
 addW 8 x13 (fun x14 w =>
 load1W x14 (fun x15 w =>
 binIntW .eql x15 (Value.int .i64 1) (fun x16 w =>
 condP x16 (fun w => addW 0 x1 (fun x17 w =>
 load1W x17 (fun x18 w =>
 nilW a0 (fun x19 w =>
 addW 12 x19 (fun x20 w =>
 storeW 1 x20 x18 (fun _ w =>
 nilW a0 (fun x22 w =>
 addW 8 x22 (fun x23 w =>
 storeW 1 x23 (Value.int .i64 2) (fun _ w =>
 K (Value.tuple #[]) w) w) w) w) w) w) w) w) w) (fun w => drewW (fun w => nilW a0 (fun x25 w =>
 addW 8 x25 (fun x26 w =>
 load1W x26 (fun x27 w =>
 binIntW .eql x27 (Value.int .i64 2) (fun x28 w =>
 gW x28 true (fun K w => addW 1 x1 K w) (fun x29 w =>
 gW x28 true (fun K w => loadNW 3 x29 K w) (fun x30 w =>
 gW x28 true (fun K w => K a0 w) (fun x31 w =>
 gW x28 true (fun K w => nilW x31 K w) (fun x32 w =>
 gW x28 true (fun K w => addW 9 x32 K w) (fun x33 w =>
 gW x28 true (fun K w => loadNW 3 x33 K w) (fun x34 w =>
 gW x28 true (fun K w => eqAggW [.i .u64, .b, .i .i64] .eql x30 x34 K w) (fun x35 w =>
 pickW x28 x35 (Value.bool false) (fun x36 w =>
 condP x36 (fun w => nilW a0 (fun x37 w =>
 addW 0 x37 (fun x38 w =>
 addW 2 x38 (fun x39 w =>
 storeW 1 x39 (Value.int .i64 2) (fun _ w =>
 K (Value.tuple #[]) w) w) w) w) w) (fun w => nilW a0 (fun x41 w =>
 addW 8 x41 (fun x42 w =>
 storeW 1 x42 (Value.int .i64 0) (fun _ w =>
 addW 1 x1 (fun x44 w =>
 addW 1 x44 (fun x45 w =>
 load1W x45 (fun x46 w =>
 joinW0 (fun  w =>
 K (Value.tuple #[]) w) (fun j1 w =>
 condP x46 (fun w => drewW (fun w => nilW a0 (fun x47 w =>
 addW 0 x47 (fun x48 w =>
 addW 1 x1 (fun x49 w =>
 loadNW 3 x49 (fun x50 w =>
 CP Try.prog Fn.ref23_Step_held [x48, x50] (fun x51 w =>
 andP (fun w => andP (fun w => trueP w) (fun w => trueP w) w) (fun w =>
 j1  w) w) w) w) w) w) w) w) (fun w => drewW (fun w => addW 1 x1 (fun x52 w =>
 addW 0 x52 (fun x53 w =>
 load1W x53 (fun x54 w =>
 nilW a0 (fun x55 w =>
 addW 7 x55 (fun x56 w =>
 load1W x56 (fun x57 w =>
 binIntW .gtr x54 x57 (fun x58 w =>
 joinW0 (fun  w =>
 j1  w) (fun j2 w =>
 condP x58 (fun w => nilW a0 (fun x59 w =>
 addW 0 x59 (fun x60 w =>
 addW 2 x60 (fun x61 w =>
 storeW 1 x61 (Value.int .i64 6) (fun _ w =>
 j2  w) w) w) w) w) (fun w => addW 1 x1 (fun x63 w =>
 loadNW 3 x63 (fun x64 w =>
 nilW a0 (fun x65 w =>
 addW 9 x65 (fun x66 w =>
 storeW 3 x66 x64 (fun _ w =>
 nilW a0 (fun x68 w =>
 addW 8 x68 (fun x69 w =>
 storeW 1 x69 (Value.int .i64 1) (fun _ w =>
 j2  w) w) w) w) w) w) w) w) w) w) w) w) w) w) w) w) w) w) w) w) w) w) w) w) w) w) w) w) w) w) w) w) w) w) w) w) w) w) w) w) w) w) w) w) w) w) w) w) w) w) w) w) w) w) w) w) w) w) w) w) w

/-- law3_do -/
def S_law3_do (a0 a1 a2 : Value) (K : KV) : World → Prop := fun w =>
 loopW1 (Value.int .i64 0) (fun J1 x1 w =>
 lenW a2 (fun x2 w =>
 binIntW .lss x1 x2 (fun x3 w =>
 gW x3 true (fun K w => K x1 w) (fun x4 w =>
 gW x3 true (fun K w => binIntW .lss x4 (Value.int .i64 60) K w) (fun x5 w =>
 pickW x3 x5 (Value.bool false) (fun x6 w =>
 condP x6 (fun w => joinW0 (fun  w =>
 binIntW .add x1 (Value.int .i64 1) (fun x7 w =>
 J1 x7 w) w) (fun j1 w =>
 idxW 8 a2 x1 (fun x8 w =>
 loadNW 8 x8 (fun x9 w =>
 newW #[(Value.int .i64 0), (Value.int .i64 0), (Value.int .u64 0), (Value.bool false), (Value.int .i64 0), (Value.int .u64 0), (Value.bool false), (Value.int .i64 0)] (fun x10 w =>
 storeW 8 x10 x9 (fun _ w =>
 drewW (fun w => addW 5 x10 (fun x12 w =>
 loadNW 3 x12 (fun x13 w =>
 addW 0 x10 (fun x14 w =>
 load1W x14 (fun x15 w =>
 binIntW .gtr x15 (Value.int .i64 40) (fun x16 w =>
 addW 2 x10 (fun x17 w =>
 loadNW 3 x17 (fun x18 w =>
 addW 0 x10 (fun x19 w =>
 load1W x19 (fun x20 w =>
 binIntW .gtr x20 (Value.int .i64 40) (fun x21 w =>
 andP (fun w => CP Try.prog Fn.law3_lockOf [x13, x16] (fun x22 w =>
 andP (fun w => andP (fun w => load1W x19 (fun v w => eqP v x20 w) w) (fun w => andP (fun w => loadNW 3 x17 (fun v w => eqP v x18 w) w) (fun w => andP (fun w => trueP w) (fun w => andP (fun w => trueP w) (fun w => trueP w) w) w) w) w) (fun w =>
 andP (fun w => CP Try.prog Fn.law3_lockOf [x18, x21] (fun x23 w =>
 andP (fun w => andP (fun w => trueP w) (fun w => andP (fun w => trueP w) (fun w => trueP w) w) w) (fun w =>
 andP (fun w => newW #[(Value.int .u64 0), (Value.bool false), (Value.int .i64 0)] (fun x24 w =>
 andP (fun w => trueP w) (fun w =>
 newW #[(Value.int .u64 0), (Value.bool false), (Value.int .i64 0)] (fun x25 w =>
 andP (fun w => trueP w) (fun w =>
 storeW 3 x24 x22 (fun _ w =>
 andP (fun w => trueP w) (fun w =>
 storeW 3 x25 x23 (fun _ w =>
 andP (fun w => trueP w) (fun w =>
 addW 0 x10 (fun x28 w =>
 load1W x28 (fun x29 w =>
 binIntW .and x29 (Value.int .i64 3) (fun x30 w =>
 binIntW .eql x30 (Value.int .i64 0) (fun x31 w =>
 joinW0 (fun  w =>
 j1  w) (fun j2 w =>
 condP x31 (fun w => addW 1 x10 (fun x32 w =>
 load1W x32 (fun x33 w =>
 CP Try.prog Fn.stripe_Table_Load [a0, x33] (fun x34 w =>
 extractW 0 x34 (fun x35 w =>
 extractW 1 x34 (fun x36 w =>
 newW #[(Value.int .u64 0), (Value.bool false), (Value.int .i64 0)] (fun x37 w =>
 storeW 3 x37 x35 (fun _ w =>
 addW 1 x10 (fun x39 w =>
 load1W x39 (fun x40 w =>
 buildW [(Value.int .i64 0), (Value.int .i64 0), (Value.int .u64 0), (Value.int .u64 0), (Value.int .u64 0), (Value.bool false), (Value.int .i64 0), (Value.int .u64 0), (Value.bool false), (Value.int .i64 0)] [(0, 1, (Value.int .i64 3)), (1, 1, x40)] (fun x41 w =>
 CP Try.prog Fn.ref1_Mem_Do [a1, x41] (fun x42 w =>
 newW #[(Value.int .u64 0), (Value.int .u64 0), (Value.bool false), (Value.int .i64 0), (Value.bool false), (Value.int .i64 0)] (fun x43 w =>
 storeW 6 x43 x42 (fun _ w =>
 loadNW 3 x37 (fun x45 w =>
 addW 1 x43 (fun x46 w =>
 loadNW 3 x46 (fun x47 w =>
 eqAggW [.i .u64, .b, .i .i64] .neq x45 x47 (fun x48 w =>
 gW x48 false (fun K w => K x36 w) (fun x49 w =>
 gW x48 false (fun K w => addW 5 x43 K w) (fun x50 w =>
 gW x48 false (fun K w => load1W x50 K w) (fun x51 w =>
 gW x48 false (fun K w => binIntW .neq x49 x51 K w) (fun x52 w =>
 pickW x48 (Value.bool true) x52 (fun x53 w =>
 condP x53 (fun w => K (Value.bool false) w) (fun w => j2  w) w) w) w) w) w) w) w) w) w) w) w) w) w) w) w) w) w) w) w) w) w) w) w) (fun w => binIntW .eql x30 (Value.int .i64 1) (fun x54 w =>
 joinW0 (fun  w =>
 j2  w) (fun j3 w =>
 condP x54 (fun w => drewW (fun w => addW 1 x10 (fun x55 w =>
 load1W x55 (fun x56 w =>
 loadNW 3 x24 (fun x57 w =>
 addW 1 x10 (fun x58 w =>
 load1W x58 (fun x59 w =>
 loadNW 3 x24 (fun x60 w =>
 buildW [(Value.int .i64 0), (Value.int .i64 0), (Value.int .u64 0), (Value.int .u64 0), (Value.int .u64 0), (Value.bool false), (Value.int .i64 0), (Value.int .u64 0), (Value.bool false), (Value.int .i64 0)] [(0, 1, (Value.int .i64 5)), (1, 1, x59), (7, 3, x60)] (fun x61 w =>
 CP Try.prog Fn.stripe_Table_Store [a0, x56, x57] (fun x62 w =>
 andP (fun w => andP (fun w => loadNW 3 x24 (fun v w => eqP v x60 w) w) (fun w => andP (fun w => load1W x58 (fun v w => eqP v x59 w) w) (fun w => andP (fun w => trueP w) (fun w => andP (fun w => trueP w) (fun w => trueP w) w) w) w) w) (fun w =>
 CP Try.prog Fn.ref1_Mem_Do [a1, x61] (fun x63 w =>
 andP (fun w => andP (fun w => trueP w) (fun w => andP (fun w => trueP w) (fun w => trueP w) w) w) (fun w =>
 partW false 5 1 x63 (fun x64 w =>
 binIntW .neq x62 x64 (fun x65 w =>
 condP x65 (fun w => K (Value.bool false) w) (fun w => j3  w) w) w) w) w) w) w) w) w) w) w) w) w) w) w) w) (fun w => drewW (fun w => addW 0 x10 (fun x66 w =>
 load1W x66 (fun x67 w =>
 binIntW .and x67 (Value.int .i64 3) (fun x68 w =>
 binIntW .eql x68 (Value.int .i64 3) (fun x69 w =>
 gW x69 true (fun K w => addW 1 x10 K w) (fun x70 w =>
 gW x69 true (fun K w => load1W x70 K w) (fun x71 w =>
 gW x69 true (fun K w => binIntW .geq x71 (Value.int .i64 0) K w) (fun x72 w =>
 pickW x69 x72 (Value.bool false) (fun x73 w =>
 gW x73 true (fun K w => addW 1 x10 K w) (fun x74 w =>
 gW x73 true (fun K w => load1W x74 K w) (fun x75 w =>
 gW x73 true (fun K w => K a1 w) (fun x76 w =>
 gW x73 true (fun K w => nilW x76 K w) (fun x77 w =>
 gW x73 true (fun K w => addW 6 x77 K w) (fun x78 w =>
 gW x73 true (fun K w => load1W x78 K w) (fun x79 w =>
 gW x73 true (fun K w => lenW x79 K w) (fun x80 w =>
 gW x73 true (fun K w => binIntW .lss x75 x80 K w) (fun x81 w =>
 pickW x73 x81 (Value.bool false) (fun x82 w =>
 joinW0 (fun  w =>
 addW 1 x10 (fun x83 w =>
 load1W x83 (fun x84 w =>
 loadNW 3 x25 (fun x85 w =>
 loadNW 3 x24 (fun x86 w =>
 CP Try.prog Fn.stripe_Table_Cas [a0, x84, x85, x86] (fun x87 w =>
 extractW 0 x87 (fun x88 w =>
 extractW 1 x87 (fun x89 w =>
 addW 1 x10 (fun x90 w =>
 load1W x90 (fun x91 w =>
 loadNW 3 x25 (fun x92 w =>
 loadNW 3 x24 (fun x93 w =>
 buildW [(Value.int .i64 0), (Value.int .i64 0), (Value.int .u64 0), (Value.int .u64 0), (Value.int .u64 0), (Value.bool false), (Value.int .i64 0), (Value.int .u64 0), (Value.bool false), (Value.int .i64 0)] [(0, 1, (Value.int .i64 4)), (1, 1, x91), (4, 3, x92), (7, 3, x93)] (fun x94 w =>
 CP Try.prog Fn.ref1_Mem_Do [a1, x94] (fun x95 w =>
 newW #[(Value.int .u64 0), (Value.int .u64 0), (Value.bool false), (Value.int .i64 0), (Value.bool false), (Value.int .i64 0)] (fun x96 w =>
 storeW 6 x96 x95 (fun _ w =>
 addW 4 x96 (fun x98 w =>
 load1W x98 (fun x99 w =>
 binBoolW .neq x88 x99 (fun x100 w =>
 gW x100 false (fun K w => K x89 w) (fun x101 w =>
 gW x100 false (fun K w => addW 5 x96 K w) (fun x102 w =>
 gW x100 false (fun K w => load1W x102 K w) (fun x103 w =>
 gW x100 false (fun K w => binIntW .neq x101 x103 K w) (fun x104 w =>
 pickW x100 (Value.bool true) x104 (fun x105 w =>
 condP x105 (fun w => K (Value.bool false) w) (fun w => j3  w) w) w) w) w) w) w) w) w) w) w) w) w) w) w) w) w) w) w) w) w) w) w) w) w) (fun j4 w =>
 condP x82 (fun w => drewW (fun w => nilW a1 (fun x106 w =>
 addW 6 x106 (fun x107 w =>
 load1W x107 (fun x108 w =>
 addW 1 x10 (fun x109 w =>
 load1W x109 (fun x110 w =>
 idxW 3 x108 x110 (fun x111 w =>
 loadNW 3 x111 (fun x112 w =>
 storeW 3 x25 x112 (fun _ w =>
 andP (fun w => andP (fun w => trueP w) (fun w => andP (fun w => trueP w) (fun w => andP (fun w => trueP w) (fun w => trueP w) w) w) w) (fun w =>
 j4  w) w) w) w) w) w) w) w) w) w) w) (fun w => j4  w) w) w) w) w) w) w) w) w) w) w) w) w) w) w) w) w) w) w) w) w) w) w) w) w) w) w) w) w) w) w) w) w) w) w) w) w) w) (fun w => newW #[(Value.int .u64 0), (Value.bool false), (Value.int .i64 0)] (fun x114 w =>
 andP (fun w => trueP w) (fun w =>
 newW #[(Value.int .u64 0), (Value.bool false), (Value.int .i64 0)] (fun x115 w =>
 andP (fun w => trueP w) (fun w =>
 storeW 3 x115 x22 (fun _ w =>
 andP (fun w => trueP w) (fun w =>
 storeW 3 x114 x23 (fun _ w =>
 andP (fun w => trueP w) (fun w =>
 addW 0 x10 (fun x118 w =>
 load1W x118 (fun x119 w =>
 binIntW .and x119 (Value.int .i64 3) (fun x120 w =>
 binIntW .eql x120 (Value.int .i64 0) (fun x121 w =>
 joinW0 (fun  w =>
 j1  w) (fun j5 w =>
 condP x121 (fun w => addW 1 x10 (fun x122 w =>
 load1W x122 (fun x123 w =>
 CP Try.prog Fn.stripe_Table_Load [a0, x123] (fun x124 w =>
 extractW 0 x124 (fun x125 w =>
 extractW 1 x124 (fun x126 w =>
 newW #[(Value.int .u64 0), (Value.bool false), (Value.int .i64 0)] (fun x127 w =>
 storeW 3 x127 x125 (fun _ w =>
 addW 1 x10 (fun x129 w =>
 load1W x129 (fun x130 w =>
 buildW [(Value.int .i64 0), (Value.int .i64 0), (Value.int .u64 0), (Value.int .u64 0), (Value.int .u64 0), (Value.bool false), (Value.int .i64 0), (Value.int .u64 0), (Value.bool false), (Value.int .i64 0)] [(0, 1, (Value.int .i64 3)), (1, 1, x130)] (fun x131 w =>
 CP Try.prog Fn.ref1_Mem_Do [a1, x131] (fun x132 w =>
 newW #[(Value.int .u64 0), (Value.int .u64 0), (Value.bool false), (Value.int .i64 0), (Value.bool false), (Value.int .i64 0)] (fun x133 w =>
 storeW 6 x133 x132 (fun _ w =>
 loadNW 3 x127 (fun x135 w =>
 addW 1 x133 (fun x136 w =>
 loadNW 3 x136 (fun x137 w =>
 eqAggW [.i .u64, .b, .i .i64] .neq x135 x137 (fun x138 w =>
 gW x138 false (fun K w => K x126 w) (fun x139 w =>
 gW x138 false (fun K w => addW 5 x133 K w) (fun x140 w =>
 gW x138 false (fun K w => load1W x140 K w) (fun x141 w =>
 gW x138 false (fun K w => binIntW .neq x139 x141 K w) (fun x142 w =>
 pickW x138 (Value.bool true) x142 (fun x143 w =>
 condP x143 (fun w => K (Value.bool false) w) (fun w => j5  w) w) w) w) w) w) w) w) w) w) w) w) w) w) w) w) w) w) w) w) w) w) w) w) (fun w => binIntW .eql x120 (Value.int .i64 1) (fun x144 w =>
 joinW0 (fun  w =>
 j5  w) (fun j6 w =>
 condP x144 (fun w => drewW (fun w => addW 1 x10 (fun x145 w =>
 load1W x145 (fun x146 w =>
 loadNW 3 x115 (fun x147 w =>
 addW 1 x10 (fun x148 w =>
 load1W x148 (fun x149 w =>
 loadNW 3 x115 (fun x150 w =>
 buildW [(Value.int .i64 0), (Value.int .i64 0), (Value.int .u64 0), (Value.int .u64 0), (Value.int .u64 0), (Value.bool false), (Value.int .i64 0), (Value.int .u64 0), (Value.bool false), (Value.int .i64 0)] [(0, 1, (Value.int .i64 5)), (1, 1, x149), (7, 3, x150)] (fun x151 w =>
 CP Try.prog Fn.stripe_Table_Store [a0, x146, x147] (fun x152 w =>
 andP (fun w => andP (fun w => loadNW 3 x115 (fun v w => eqP v x150 w) w) (fun w => andP (fun w => load1W x148 (fun v w => eqP v x149 w) w) (fun w => andP (fun w => trueP w) (fun w => andP (fun w => trueP w) (fun w => trueP w) w) w) w) w) (fun w =>
 CP Try.prog Fn.ref1_Mem_Do [a1, x151] (fun x153 w =>
 andP (fun w => andP (fun w => trueP w) (fun w => andP (fun w => trueP w) (fun w => trueP w) w) w) (fun w =>
 partW false 5 1 x153 (fun x154 w =>
 binIntW .neq x152 x154 (fun x155 w =>
 condP x155 (fun w => K (Value.bool false) w) (fun w => j6  w) w) w) w) w) w) w) w) w) w) w) w) w) w) w) w) (fun w => drewW (fun w => addW 0 x10 (fun x156 w =>
 load1W x156 (fun x157 w =>
 binIntW .and x157 (Value.int .i64 3) (fun x158 w =>
 binIntW .eql x158 (Value.int .i64 3) (fun x159 w =>
 gW x159 true (fun K w => addW 1 x10 K w) (fun x160 w =>
 gW x159 true (fun K w => load1W x160 K w) (fun x161 w =>
 gW x159 true (fun K w => binIntW .geq x161 (Value.int .i64 0) K w) (fun x162 w =>
 pickW x159 x162 (Value.bool false) (fun x163 w =>
 gW x163 true (fun K w => addW 1 x10 K w) (fun x164 w =>
 gW x163 true (fun K w => load1W x164 K w) (fun x165 w =>
 gW x163 true (fun K w => K a1 w) (fun x166 w =>
 gW x163 true (fun K w => nilW x166 K w) (fun x167 w =>
 gW x163 true (fun K w => addW 6 x167 K w) (fun x168 w =>
 gW x163 true (fun K w => load1W x168 K w) (fun x169 w =>
 gW x163 true (fun K w => lenW x169 K w) (fun x170 w =>
 gW x163 true (fun K w => binIntW .lss x165 x170 K w) (fun x171 w =>
 pickW x163 x171 (Value.bool false) (fun x172 w =>
 joinW0 (fun  w =>
 addW 1 x10 (fun x173 w =>
 load1W x173 (fun x174 w =>
 loadNW 3 x114 (fun x175 w =>
 loadNW 3 x115 (fun x176 w =>
 CP Try.prog Fn.stripe_Table_Cas [a0, x174, x175, x176] (fun x177 w =>
 extractW 0 x177 (fun x178 w =>
 extractW 1 x177 (fun x179 w =>
 addW 1 x10 (fun x180 w =>
 load1W x180 (fun x181 w =>
 loadNW 3 x114 (fun x182 w =>
 loadNW 3 x115 (fun x183 w =>
 buildW [(Value.int .i64 0), (Value.int .i64 0), (Value.int .u64 0), (Value.int .u64 0), (Value.int .u64 0), (Value.bool false), (Value.int .i64 0), (Value.int .u64 0), (Value.bool false), (Value.int .i64 0)] [(0, 1, (Value.int .i64 4)), (1, 1, x181), (4, 3, x182), (7, 3, x183)] (fun x184 w =>
 CP Try.prog Fn.ref1_Mem_Do [a1, x184] (fun x185 w =>
 newW #[(Value.int .u64 0), (Value.int .u64 0), (Value.bool false), (Value.int .i64 0), (Value.bool false), (Value.int .i64 0)] (fun x186 w =>
 storeW 6 x186 x185 (fun _ w =>
 addW 4 x186 (fun x188 w =>
 load1W x188 (fun x189 w =>
 binBoolW .neq x178 x189 (fun x190 w =>
 gW x190 false (fun K w => K x179 w) (fun x191 w =>
 gW x190 false (fun K w => addW 5 x186 K w) (fun x192 w =>
 gW x190 false (fun K w => load1W x192 K w) (fun x193 w =>
 gW x190 false (fun K w => binIntW .neq x191 x193 K w) (fun x194 w =>
 pickW x190 (Value.bool true) x194 (fun x195 w =>
 condP x195 (fun w => K (Value.bool false) w) (fun w => j6  w) w) w) w) w) w) w) w) w) w) w) w) w) w) w) w) w) w) w) w) w) w) w) w) w) (fun j7 w =>
 condP x172 (fun w => drewW (fun w => nilW a1 (fun x196 w =>
 addW 6 x196 (fun x197 w =>
 load1W x197 (fun x198 w =>
 addW 1 x10 (fun x199 w =>
 load1W x199 (fun x200 w =>
 idxW 3 x198 x200 (fun x201 w =>
 loadNW 3 x201 (fun x202 w =>
 storeW 3 x114 x202 (fun _ w =>
 andP (fun w => andP (fun w => trueP w) (fun w => andP (fun w => trueP w) (fun w => andP (fun w => trueP w) (fun w => trueP w) w) w) w) (fun w =>
 j7  w) w) w) w) w) w) w) w) w) w) w) (fun w => j7  w) w) w) w) w) w) w) w) w) w) w) w) w) w) w) w) w) w) w) w) w) w) w) w) w) w) w) w) w) w) w) w) w) w) w) w) w) w) w) w) w) (fun w => andP (fun w => newW #[(Value.int .u64 0), (Value.bool false), (Value.int .i64 0)] (fun x204 w =>
 andP (fun w => andP (fun w => load1W x19 (fun v w => eqP v x20 w) w) (fun w => andP (fun w => loadNW 3 x17 (fun v w => eqP v x18 w) w) (fun w => trueP w) w) w) (fun w =>
 andP (fun w => CP Try.prog Fn.law3_lockOf [x18, x21] (fun x205 w =>
 andP (fun w => andP (fun w => trueP w) (fun w => andP (fun w => trueP w) (fun w => trueP w) w) w) (fun w =>
 newW #[(Value.int .u64 0), (Value.bool false), (Value.int .i64 0)] (fun x206 w =>
 andP (fun w => trueP w) (fun w =>
 storeW 3 x204 x22 (fun _ w =>
 andP (fun w => trueP w) (fun w =>
 storeW 3 x206 x205 (fun _ w =>
 andP (fun w => trueP w) (fun w =>
 addW 0 x10 (fun x209 w =>
 load1W x209 (fun x210 w =>
 binIntW .and x210 (Value.int .i64 3) (fun x211 w =>
 binIntW .eql x211 (Value.int .i64 0) (fun x212 w =>
 joinW0 (fun  w =>
 j1  w) (fun j8 w =>
 condP x212 (fun w => addW 1 x10 (fun x213 w =>
 load1W x213 (fun x214 w =>
 CP Try.prog Fn.stripe_Table_Load [a0, x214] (fun x215 w =>
 extractW 0 x215 (fun x216 w =>
 extractW 1 x215 (fun x217 w =>
 newW #[(Value.int .u64 0), (Value.bool false), (Value.int .i64 0)] (fun x218 w =>
 storeW 3 x218 x216 (fun _ w =>
 addW 1 x10 (fun x220 w =>
 load1W x220 (fun x221 w =>
 buildW [(Value.int .i64 0), (Value.int .i64 0), (Value.int .u64 0), (Value.int .u64 0), (Value.int .u64 0), (Value.bool false), (Value.int .i64 0), (Value.int .u64 0), (Value.bool false), (Value.int .i64 0)] [(0, 1, (Value.int .i64 3)), (1, 1, x221)] (fun x222 w =>
 CP Try.prog Fn.ref1_Mem_Do [a1, x222] (fun x223 w =>
 newW #[(Value.int .u64 0), (Value.int .u64 0), (Value.bool false), (Value.int .i64 0), (Value.bool false), (Value.int .i64 0)] (fun x224 w =>
 storeW 6 x224 x223 (fun _ w =>
 loadNW 3 x218 (fun x226 w =>
 addW 1 x224 (fun x227 w =>
 loadNW 3 x227 (fun x228 w =>
 eqAggW [.i .u64, .b, .i .i64] .neq x226 x228 (fun x229 w =>
 gW x229 false (fun K w => K x217 w) (fun x230 w =>
 gW x229 false (fun K w => addW 5 x224 K w) (fun x231 w =>
 gW x229 false (fun K w => load1W x231 K w) (fun x232 w =>
 gW x229 false (fun K w => binIntW .neq x230 x232 K w) (fun x233 w =>
 pickW x229 (Value.bool true) x233 (fun x234 w =>
 condP x234 (fun w => K (Value.bool false) w) (fun w => j8  w) w) w) w) w) w) w) w) w) w) w) w) w) w) w) w) w) w) w) w) w) w) w) w) (fun w => binIntW .eql x211 (Value.int .i64 1) (fun x235 w =>
 joinW0 (fun  w =>
 j8  w) (fun j9 w =>
 condP x235 (fun w => drewW (fun w => addW 1 x10 (fun x236 w =>
 load1W x236 (fun x237 w =>
 loadNW 3 x204 (fun x238 w =>
 addW 1 x10 (fun x239 w =>
 load1W x239 (fun x240 w =>
 loadNW 3 x204 (fun x241 w =>
 buildW [(Value.int .i64 0), (Value.int .i64 0), (Value.int .u64 0), (Value.int .u64 0), (Value.int .u64 0), (Value.bool false), (Value.int .i64 0), (Value.int .u64 0), (Value.bool false), (Value.int .i64 0)] [(0, 1, (Value.int .i64 5)), (1, 1, x240), (7, 3, x241)] (fun x242 w =>
 CP Try.prog Fn.stripe_Table_Store [a0, x237, x238] (fun x243 w =>
 andP (fun w => andP (fun w => loadNW 3 x204 (fun v w => eqP v x241 w) w) (fun w => andP (fun w => load1W x239 (fun v w => eqP v x240 w) w) (fun w => andP (fun w => trueP w) (fun w => andP (fun w => trueP w) (fun w => trueP w) w) w) w) w) (fun w =>
 CP Try.prog Fn.ref1_Mem_Do [a1, x242] (fun x244 w =>
 andP (fun w => andP (fun w => trueP w) (fun w => andP (fun w => trueP w) (fun w => trueP w) w) w) (fun w =>
 partW false 5 1 x244 (fun x245 w =>
 binIntW .neq x243 x245 (fun x246 w =>
 condP x246 (fun w => K (Value.bool false) w) (fun w => j9  w) w) w) w) w) w) w) w) w) w) w) w) w) w) w) w) (fun w => drewW (fun w => addW 0 x10 (fun x247 w =>
 load1W x247 (fun x248 w =>
 binIntW .and x248 (Value.int .i64 3) (fun x249 w =>
 binIntW .eql x249 (Value.int .i64 3) (fun x250 w =>
 gW x250 true (fun K w => addW 1 x10 K w) (fun x251 w =>
 gW x250 true (fun K w => load1W x251 K w) (fun x252 w =>
 gW x250 true (fun K w => binIntW .geq x252 (Value.int .i64 0) K w) (fun x253 w =>
 pickW x250 x253 (Value.bool false) (fun x254 w =>
 gW x254 true (fun K w => addW 1 x10 K w) (fun x255 w =>
 gW x254 true (fun K w => load1W x255 K w) (fun x256 w =>
 gW x254 true (fun K w => K a1 w) (fun x257 w =>
 gW x254 true (fun K w => nilW x257 K w) (fun x258 w =>
 gW x254 true (fun K w => addW 6 x258 K w) (fun x259 w =>
 gW x254 true (fun K w => load1W x259 K w) (fun x260 w =>
 gW x254 true (fun K w => lenW x260 K w) (fun x261 w =>
 gW x254 true (fun K w => binIntW .lss x256 x261 K w) (fun x262 w =>
 pickW x254 x262 (Value.bool false) (fun x263 w =>
 joinW0 (fun  w =>
 addW 1 x10 (fun x264 w =>
 load1W x264 (fun x265 w =>
 loadNW 3 x206 (fun x266 w =>
 loadNW 3 x204 (fun x267 w =>
 CP Try.prog Fn.stripe_Table_Cas [a0, x265, x266, x267] (fun x268 w =>
 extractW 0 x268 (fun x269 w =>
 extractW 1 x268 (fun x270 w =>
 addW 1 x10 (fun x271 w =>
 load1W x271 (fun x272 w =>
 loadNW 3 x206 (fun x273 w =>
 loadNW 3 x204 (fun x274 w =>
 buildW [(Value.int .i64 0), (Value.int .i64 0), (Value.int .u64 0), (Value.int .u64 0), (Value.int .u64 0), (Value.bool false), (Value.int .i64 0), (Value.int .u64 0), (Value.bool false), (Value.int .i64 0)] [(0, 1, (Value.int .i64 4)), (1, 1, x272), (4, 3, x273), (7, 3, x274)] (fun x275 w =>
 CP Try.prog Fn.ref1_Mem_Do [a1, x275] (fun x276 w =>
 newW #[(Value.int .u64 0), (Value.int .u64 0), (Value.bool false), (Value.int .i64 0), (Value.bool false), (Value.int .i64 0)] (fun x277 w =>
 storeW 6 x277 x276 (fun _ w =>
 addW 4 x277 (fun x279 w =>
 load1W x279 (fun x280 w =>
 binBoolW .neq x269 x280 (fun x281 w =>
 gW x281 false (fun K w => K x270 w) (fun x282 w =>
 gW x281 false (fun K w => addW 5 x277 K w) (fun x283 w =>
 gW x281 false (fun K w => load1W x283 K w) (fun x284 w =>
 gW x281 false (fun K w => binIntW .neq x282 x284 K w) (fun x285 w =>
 pickW x281 (Value.bool true) x285 (fun x286 w =>
 condP x286 (fun w => K (Value.bool false) w) (fun w => j9  w) w) w) w) w) w) w) w) w) w) w) w) w) w) w) w) w) w) w) w) w) w) w) w) w) (fun j10 w =>
 condP x263 (fun w => drewW (fun w => nilW a1 (fun x287 w =>
 addW 6 x287 (fun x288 w =>
 load1W x288 (fun x289 w =>
 addW 1 x10 (fun x290 w =>
 load1W x290 (fun x291 w =>
 idxW 3 x289 x291 (fun x292 w =>
 loadNW 3 x292 (fun x293 w =>
 storeW 3 x206 x293 (fun _ w =>
 andP (fun w => andP (fun w => trueP w) (fun w => andP (fun w => trueP w) (fun w => andP (fun w => trueP w) (fun w => trueP w) w) w) w) (fun w =>
 j10  w) w) w) w) w) w) w) w) w) w) w) (fun w => j10  w) w) w) w) w) w) w) w) w) w) w) w) w) w) w) w) w) w) w) w) w) w) w) w) w) w) w) w) w) w) w) w) w) w) w) w) w) w) (fun w => newW #[(Value.int .u64 0), (Value.bool false), (Value.int .i64 0)] (fun x295 w =>
 andP (fun w => andP (fun w => load1W x19 (fun v w => eqP v x20 w) w) (fun w => andP (fun w => loadNW 3 x17 (fun v w => eqP v x18 w) w) (fun w => trueP w) w) w) (fun w =>
 CP Try.prog Fn.law3_lockOf [x18, x21] (fun x296 w =>
 andP (fun w => andP (fun w => trueP w) (fun w => andP (fun w => trueP w) (fun w => trueP w) w) w) (fun w =>
 storeW 3 x204 x22 (fun _ w =>
 andP (fun w => trueP w) (fun w =>
 storeW 3 x295 x296 (fun _ w =>
 andP (fun w => trueP w) (fun w =>
 addW 0 x10 (fun x299 w =>
 load1W x299 (fun x300 w =>
 binIntW .and x300 (Value.int .i64 3) (fun x301 w =>
 binIntW .eql x301 (Value.int .i64 0) (fun x302 w =>
 joinW0 (fun  w =>
 j1  w) (fun j11 w =>
 condP x302 (fun w => addW 1 x10 (fun x303 w =>
 load1W x303 (fun x304 w =>
 CP Try.prog Fn.stripe_Table_Load [a0, x304] (fun x305 w =>
 extractW 0 x305 (fun x306 w =>
 extractW 1 x305 (fun x307 w =>
 newW #[(Value.int .u64 0), (Value.bool false), (Value.int .i64 0)] (fun x308 w =>
 storeW 3 x308 x306 (fun _ w =>
 addW 1 x10 (fun x310 w =>
 load1W x310 (fun x311 w =>
 buildW [(Value.int .i64 0), (Value.int .i64 0), (Value.int .u64 0), (Value.int .u64 0), (Value.int .u64 0), (Value.bool false), (Value.int .i64 0), (Value.int .u64 0), (Value.bool false), (Value.int .i64 0)] [(0, 1, (Value.int .i64 3)), (1, 1, x311)] (fun x312 w =>
 CP Try.prog Fn.ref1_Mem_Do [a1, x312] (fun x313 w =>
 newW #[(Value.int .u64 0), (Value.int .u64 0), (Value.bool false), (Value.int .i64 0), (Value.bool false), (Value.int .i64 0)] (fun x314 w =>
 storeW 6 x314 x313 (fun _ w =>
 loadNW 3 x308 (fun x316 w =>
 addW 1 x314 (fun x317 w =>
 loadNW 3 x317 (fun x318 w =>
 eqAggW [.i .u64, .b, .i .i64] .neq x316 x318 (fun x319 w =>
 gW x319 false (fun K w => K x307 w) (fun x320 w =>
 gW x319 false (fun K w => addW 5 x314 K w) (fun x321 w =>
 gW x319 false (fun K w => load1W x321 K w) (fun x322 w =>
 gW x319 false (fun K w => binIntW .neq x320 x322 K w) (fun x323 w =>
 pickW x319 (Value.bool true) x323 (fun x324 w =>
 condP x324 (fun w => K (Value.bool false) w) (fun w => j11  w) w) w) w) w) w) w) w) w) w) w) w) w) w) w) w) w) w) w) w) w) w) w) w) (fun w => binIntW .eql x301 (Value.int .i64 1) (fun x325 w =>
 joinW0 (fun  w =>
 j11  w) (fun j12 w =>
 condP x325 (fun w => drewW (fun w => addW 1 x10 (fun x326 w =>
 load1W x326 (fun x327 w =>
 loadNW 3 x204 (fun x328 w =>
 addW 1 x10 (fun x329 w =>
 load1W x329 (fun x330 w =>
 loadNW 3 x204 (fun x331 w =>
 buildW [(Value.int .i64 0), (Value.int .i64 0), (Value.int .u64 0), (Value.int .u64 0), (Value.int .u64 0), (Value.bool false), (Value.int .i64 0), (Value.int .u64 0), (Value.bool false), (Value.int .i64 0)] [(0, 1, (Value.int .i64 5)), (1, 1, x330), (7, 3, x331)] (fun x332 w =>
 CP Try.prog Fn.stripe_Table_Store [a0, x327, x328] (fun x333 w =>
 andP (fun w => andP (fun w => loadNW 3 x204 (fun v w => eqP v x331 w) w) (fun w => andP (fun w => load1W x329 (fun v w => eqP v x330 w) w) (fun w => andP (fun w => trueP w) (fun w => andP (fun w => trueP w) (fun w => trueP w) w) w) w) w) (fun w =>
 CP Try.prog Fn.ref1_Mem_Do [a1, x332] (fun x334 w =>
 andP (fun w => andP (fun w => trueP w) (fun w => andP (fun w => trueP w) (fun w => trueP w) w) w) (fun w =>
 partW false 5 1 x334 (fun x335 w =>
 binIntW .neq x333 x335 (fun x336 w =>
 condP x336 (fun w => K (Value.bool false) w) (fun w => j12  w) w) w) w) w) w) w) w) w) w) w) w) w) w) w) w) (fun w => drewW (fun w => addW 0 x10 (fun x337 w =>
 load1W x337 (fun x338 w =>
 binIntW .and x338 (Value.int .i64 3) (fun x339 w =>
 binIntW .eql x339 (Value.int .i64 3) (fun x340 w =>
 gW x340 true (fun K w => addW 1 x10 K w) (fun x341 w =>
 gW x340 true (fun K w => load1W x341 K w) (fun x342 w =>
 gW x340 true (fun K w => binIntW .geq x342 (Value.int .i64 0) K w) (fun x343 w =>
 pickW x340 x343 (Value.bool false) (fun x344 w =>
 gW x344 true (fun K w => addW 1 x10 K w) (fun x345 w =>
 gW x344 true (fun K w => load1W x345 K w) (fun x346 w =>
 gW x344 true (fun K w => K a1 w) (fun x347 w =>
 gW x344 true (fun K w => nilW x347 K w) (fun x348 w =>
 gW x344 true (fun K w => addW 6 x348 K w) (fun x349 w =>
 gW x344 true (fun K w => load1W x349 K w) (fun x350 w =>
 gW x344 true (fun K w => lenW x350 K w) (fun x351 w =>
 gW x344 true (fun K w => binIntW .lss x346 x351 K w) (fun x352 w =>
 pickW x344 x352 (Value.bool false) (fun x353 w =>
 joinW0 (fun  w =>
 addW 1 x10 (fun x354 w =>
 load1W x354 (fun x355 w =>
 loadNW 3 x295 (fun x356 w =>
 loadNW 3 x204 (fun x357 w =>
 CP Try.prog Fn.stripe_Table_Cas [a0, x355, x356, x357] (fun x358 w =>
 extractW 0 x358 (fun x359 w =>
 extractW 1 x358 (fun x360 w =>
 addW 1 x10 (fun x361 w =>
 load1W x361 (fun x362 w =>
 loadNW 3 x295 (fun x363 w =>
 loadNW 3 x204 (fun x364 w =>
 buildW [(Value.int .i64 0), (Value.int .i64 0), (Value.int .u64 0), (Value.int .u64 0), (Value.int .u64 0), (Value.bool false), (Value.int .i64 0), (Value.int .u64 0), (Value.bool false), (Value.int .i64 0)] [(0, 1, (Value.int .i64 4)), (1, 1, x362), (4, 3, x363), (7, 3, x364)] (fun x365 w =>
 CP Try.prog Fn.ref1_Mem_Do [a1, x365] (fun x366 w =>
 newW #[(Value.int .u64 0), (Value.int .u64 0), (Value.bool false), (Value.int .i64 0), (Value.bool false), (Value.int .i64 0)] (fun x367 w =>
 storeW 6 x367 x366 (fun _ w =>
 addW 4 x367 (fun x369 w =>
 load1W x369 (fun x370 w =>
 binBoolW .neq x359 x370 (fun x371 w =>
 gW x371 false (fun K w => K x360 w) (fun x372 w =>
 gW x371 false (fun K w => addW 5 x367 K w) (fun x373 w =>
 gW x371 false (fun K w => load1W x373 K w) (fun x374 w =>
 gW x371 false (fun K w => binIntW .neq x372 x374 K w) (fun x375 w =>
 pickW x371 (Value.bool true) x375 (fun x376 w =>
 condP x376 (fun w => K (Value.bool false) w) (fun w => j12  w) w) w) w) w) w) w) w) w) w) w) w) w) w) w) w) w) w) w) w) w) w) w) w) w) (fun j13 w =>
 condP x353 (fun w => drewW (fun w => nilW a1 (fun x377 w =>
 addW 6 x377 (fun x378 w =>
 load1W x378 (fun x379 w =>
 addW 1 x10 (fun x380 w =>
 load1W x380 (fun x381 w =>
 idxW 3 x379 x381 (fun x382 w =>
 loadNW 3 x382 (fun x383 w =>
 storeW 3 x295 x383 (fun _ w =>
 andP (fun w => andP (fun w => trueP w) (fun w => andP (fun w => trueP w) (fun w => andP (fun w => trueP w) (fun w => trueP w) w) w) w) (fun w =>
 j13  w) w) w) w) w) w) w) w) w) w) w) (fun w => j13  w) w) w) w) w) w) w) w) w) w) w) w) w) w) w) w) w) w) w) w) w) w) w) w) w) w) w) w) w) w) w) w) w) w) w) w) w) w) w) w) w) (fun w => newW #[(Value.int .u64 0), (Value.bool false), (Value.int .i64 0)] (fun x385 w =>
 andP (fun w => andP (fun w => load1W x19 (fun v w => eqP v x20 w) w) (fun w => andP (fun w => loadNW 3 x17 (fun v w => eqP v x18 w) w) (fun w => trueP w) w) w) (fun w =>
 andP (fun w => CP Try.prog Fn.law3_lockOf [x18, x21] (fun x386 w =>
 andP (fun w => andP (fun w => trueP w) (fun w => andP (fun w => trueP w) (fun w => trueP w) w) w) (fun w =>
 newW #[(Value.int .u64 0), (Value.bool false), (Value.int .i64 0)] (fun x387 w =>
 andP (fun w => trueP w) (fun w =>
 storeW 3 x387 x22 (fun _ w =>
 andP (fun w => trueP w) (fun w =>
 storeW 3 x385 x386 (fun _ w =>
 andP (fun w => trueP w) (fun w =>
 addW 0 x10 (fun x390 w =>
 load1W x390 (fun x391 w =>
 binIntW .and x391 (Value.int .i64 3) (fun x392 w =>
 binIntW .eql x392 (Value.int .i64 0) (fun x393 w =>
 joinW0 (fun  w =>
 j1  w) (fun j14 w =>
 condP x393 (fun w => addW 1 x10 (fun x394 w =>
 load1W x394 (fun x395 w =>
 CP Try.prog Fn.stripe_Table_Load [a0, x395] (fun x396 w =>
 extractW 0 x396 (fun x397 w =>
 extractW 1 x396 (fun x398 w =>
 newW #[(Value.int .u64 0), (Value.bool false), (Value.int .i64 0)] (fun x399 w =>
 storeW 3 x399 x397 (fun _ w =>
 addW 1 x10 (fun x401 w =>
 load1W x401 (fun x402 w =>
 buildW [(Value.int .i64 0), (Value.int .i64 0), (Value.int .u64 0), (Value.int .u64 0), (Value.int .u64 0), (Value.bool false), (Value.int .i64 0), (Value.int .u64 0), (Value.bool false), (Value.int .i64 0)] [(0, 1, (Value.int .i64 3)), (1, 1, x402)] (fun x403 w =>
 CP Try.prog Fn.ref1_Mem_Do [a1, x403] (fun x404 w =>
 newW #[(Value.int .u64 0), (Value.int .u64 0), (Value.bool false), (Value.int .i64 0), (Value.bool false), (Value.int .i64 0)] (fun x405 w =>
 storeW 6 x405 x404 (fun _ w =>
 loadNW 3 x399 (fun x407 w =>
 addW 1 x405 (fun x408 w =>
 loadNW 3 x408 (fun x409 w =>
 eqAggW [.i .u64, .b, .i .i64] .neq x407 x409 (fun x410 w =>
 gW x410 false (fun K w => K x398 w) (fun x411 w =>
 gW x410 false (fun K w => addW 5 x405 K w) (fun x412 w =>
 gW x410 false (fun K w => load1W x412 K w) (fun x413 w =>
 gW x410 false (fun K w => binIntW .neq x411 x413 K w) (fun x414 w =>
 pickW x410 (Value.bool true) x414 (fun x415 w =>
 condP x415 (fun w => K (Value.bool false) w) (fun w => j14  w) w) w) w) w) w) w) w) w) w) w) w) w) w) w) w) w) w) w) w) w) w) w) w) (fun w => binIntW .eql x392 (Value.int .i64 1) (fun x416 w =>
 joinW0 (fun  w =>
 j14  w) (fun j15 w =>
 condP x416 (fun w => drewW (fun w => addW 1 x10 (fun x417 w =>
 load1W x417 (fun x418 w =>
 loadNW 3 x387 (fun x419 w =>
 addW 1 x10 (fun x420 w =>
 load1W x420 (fun x421 w =>
 loadNW 3 x387 (fun x422 w =>
 buildW [(Value.int .i64 0), (Value.int .i64 0), (Value.int .u64 0), (Value.int .u64 0), (Value.int .u64 0), (Value.bool false), (Value.int .i64 0), (Value.int .u64 0), (Value.bool false), (Value.int .i64 0)] [(0, 1, (Value.int .i64 5)), (1, 1, x421), (7, 3, x422)] (fun x423 w =>
 CP Try.prog Fn.stripe_Table_Store [a0, x418, x419] (fun x424 w =>
 andP (fun w => andP (fun w => loadNW 3 x387 (fun v w => eqP v x422 w) w) (fun w => andP (fun w => load1W x420 (fun v w => eqP v x421 w) w) (fun w => andP (fun w => trueP w) (fun w => andP (fun w => trueP w) (fun w => trueP w) w) w) w) w) (fun w =>
 CP Try.prog Fn.ref1_Mem_Do [a1, x423] (fun x425 w =>
 andP (fun w => andP (fun w => trueP w) (fun w => andP (fun w => trueP w) (fun w => trueP w) w) w) (fun w =>
 partW false 5 1 x425 (fun x426 w =>
 binIntW .neq x424 x426 (fun x427 w =>
 condP x427 (fun w => K (Value.bool false) w) (fun w => j15  w) w) w) w) w) w) w) w) w) w) w) w) w) w) w) w) (fun w => drewW (fun w => addW 0 x10 (fun x428 w =>
 load1W x428 (fun x429 w =>
 binIntW .and x429 (Value.int .i64 3) (fun x430 w =>
 binIntW .eql x430 (Value.int .i64 3) (fun x431 w =>
 gW x431 true (fun K w => addW 1 x10 K w) (fun x432 w =>
 gW x431 true (fun K w => load1W x432 K w) (fun x433 w =>
 gW x431 true (fun K w => binIntW .geq x433 (Value.int .i64 0) K w) (fun x434 w =>
 pickW x431 x434 (Value.bool false) (fun x435 w =>
 gW x435 true (fun K w => addW 1 x10 K w) (fun x436 w =>
 gW x435 true (fun K w => load1W x436 K w) (fun x437 w =>
 gW x435 true (fun K w => K a1 w) (fun x438 w =>
 gW x435 true (fun K w => nilW x438 K w) (fun x439 w =>
 gW x435 true (fun K w => addW 6 x439 K w) (fun x440 w =>
 gW x435 true (fun K w => load1W x440 K w) (fun x441 w =>
 gW x435 true (fun K w => lenW x441 K w) (fun x442 w =>
 gW x435 true (fun K w => binIntW .lss x437 x442 K w) (fun x443 w =>
 pickW x435 x443 (Value.bool false) (fun x444 w =>
 joinW0 (fun  w =>
 addW 1 x10 (fun x445 w =>
 load1W x445 (fun x446 w =>
 loadNW 3 x385 (fun x447 w =>
 loadNW 3 x387 (fun x448 w =>
 CP Try.prog Fn.stripe_Table_Cas [a0, x446, x447, x448] (fun x449 w =>
 extractW 0 x449 (fun x450 w =>
 extractW 1 x449 (fun x451 w =>
 addW 1 x10 (fun x452 w =>
 load1W x452 (fun x453 w =>
 loadNW 3 x385 (fun x454 w =>
 loadNW 3 x387 (fun x455 w =>
 buildW [(Value.int .i64 0), (Value.int .i64 0), (Value.int .u64 0), (Value.int .u64 0), (Value.int .u64 0), (Value.bool false), (Value.int .i64 0), (Value.int .u64 0), (Value.bool false), (Value.int .i64 0)] [(0, 1, (Value.int .i64 4)), (1, 1, x453), (4, 3, x454), (7, 3, x455)] (fun x456 w =>
 CP Try.prog Fn.ref1_Mem_Do [a1, x456] (fun x457 w =>
 newW #[(Value.int .u64 0), (Value.int .u64 0), (Value.bool false), (Value.int .i64 0), (Value.bool false), (Value.int .i64 0)] (fun x458 w =>
 storeW 6 x458 x457 (fun _ w =>
 addW 4 x458 (fun x460 w =>
 load1W x460 (fun x461 w =>
 binBoolW .neq x450 x461 (fun x462 w =>
 gW x462 false (fun K w => K x451 w) (fun x463 w =>
 gW x462 false (fun K w => addW 5 x458 K w) (fun x464 w =>
 gW x462 false (fun K w => load1W x464 K w) (fun x465 w =>
 gW x462 false (fun K w => binIntW .neq x463 x465 K w) (fun x466 w =>
 pickW x462 (Value.bool true) x466 (fun x467 w =>
 condP x467 (fun w => K (Value.bool false) w) (fun w => j15  w) w) w) w) w) w) w) w) w) w) w) w) w) w) w) w) w) w) w) w) w) w) w) w) w) (fun j16 w =>
 condP x444 (fun w => drewW (fun w => nilW a1 (fun x468 w =>
 addW 6 x468 (fun x469 w =>
 load1W x469 (fun x470 w =>
 addW 1 x10 (fun x471 w =>
 load1W x471 (fun x472 w =>
 idxW 3 x470 x472 (fun x473 w =>
 loadNW 3 x473 (fun x474 w =>
 storeW 3 x385 x474 (fun _ w =>
 andP (fun w => andP (fun w => trueP w) (fun w => andP (fun w => trueP w) (fun w => andP (fun w => trueP w) (fun w => trueP w) w) w) w) (fun w =>
 j16  w) w) w) w) w) w) w) w) w) w) w) (fun w => j16  w) w) w) w) w) w) w) w) w) w) w) w) w) w) w) w) w) w) w) w) w) w) w) w) w) w) w) w) w) w) w) w) w) w) w) w) w) w) (fun w => newW #[(Value.int .u64 0), (Value.bool false), (Value.int .i64 0)] (fun x476 w =>
 andP (fun w => andP (fun w => load1W x19 (fun v w => eqP v x20 w) w) (fun w => andP (fun w => loadNW 3 x17 (fun v w => eqP v x18 w) w) (fun w => trueP w) w) w) (fun w =>
 CP Try.prog Fn.law3_lockOf [x18, x21] (fun x477 w =>
 andP (fun w => andP (fun w => trueP w) (fun w => andP (fun w => trueP w) (fun w => trueP w) w) w) (fun w =>
 storeW 3 x476 x22 (fun _ w =>
 andP (fun w => trueP w) (fun w =>
 storeW 3 x385 x477 (fun _ w =>
 andP (fun w => trueP w) (fun w =>
 addW 0 x10 (fun x480 w =>
 load1W x480 (fun x481 w =>
 binIntW .and x481 (Value.int .i64 3) (fun x482 w =>
 binIntW .eql x482 (Value.int .i64 0) (fun x483 w =>
 joinW0 (fun  w =>
 j1  w) (fun j17 w =>
 condP x483 (fun w => addW 1 x10 (fun x484 w =>
 load1W x484 (fun x485 w =>
 CP Try.prog Fn.stripe_Table_Load [a0, x485] (fun x486 w =>
 extractW 0 x486 (fun x487 w =>
 extractW 1 x486 (fun x488 w =>
 newW #[(Value.int .u64 0), (Value.bool false), (Value.int .i64 0)] (fun x489 w =>
 storeW 3 x489 x487 (fun _ w =>
 addW 1 x10 (fun x491 w =>
 load1W x491 (fun x492 w =>
 buildW [(Value.int .i64 0), (Value.int .i64 0), (Value.int .u64 0), (Value.int .u64 0), (Value.int .u64 0), (Value.bool false), (Value.int .i64 0), (Value.int .u64 0), (Value.bool false), (Value.int .i64 0)] [(0, 1, (Value.int .i64 3)), (1, 1, x492)] (fun x493 w =>
 CP Try.prog Fn.ref1_Mem_Do [a1, x493] (fun x494 w =>
 newW #[(Value.int .u64 0), (Value.int .u64 0), (Value.bool false), (Value.int .i64 0), (Value.bool false), (Value.int .i64 0)] (fun x495 w =>
 storeW 6 x495 x494 (fun _ w =>
 loadNW 3 x489 (fun x497 w =>
 addW 1 x495 (fun x498 w =>
 loadNW 3 x498 (fun x499 w =>
 eqAggW [.i .u64, .b, .i .i64] .neq x497 x499 (fun x500 w =>
 gW x500 false (fun K w => K x488 w) (fun x501 w =>
 gW x500 false (fun K w => addW 5 x495 K w) (fun x502 w =>
 gW x500 false (fun K w => load1W x502 K w) (fun x503 w =>
 gW x500 false (fun K w => binIntW .neq x501 x503 K w) (fun x504 w =>
 pickW x500 (Value.bool true) x504 (fun x505 w =>
 condP x505 (fun w => K (Value.bool false) w) (fun w => j17  w) w) w) w) w) w) w) w) w) w) w) w) w) w) w) w) w) w) w) w) w) w) w) w) (fun w => binIntW .eql x482 (Value.int .i64 1) (fun x506 w =>
 joinW0 (fun  w =>
 j17  w) (fun j18 w =>
 condP x506 (fun w => drewW (fun w => addW 1 x10 (fun x507 w =>
 load1W x507 (fun x508 w =>
 loadNW 3 x476 (fun x509 w =>
 addW 1 x10 (fun x510 w =>
 load1W x510 (fun x511 w =>
 loadNW 3 x476 (fun x512 w =>
 buildW [(Value.int .i64 0), (Value.int .i64 0), (Value.int .u64 0), (Value.int .u64 0), (Value.int .u64 0), (Value.bool false), (Value.int .i64 0), (Value.int .u64 0), (Value.bool false), (Value.int .i64 0)] [(0, 1, (Value.int .i64 5)), (1, 1, x511), (7, 3, x512)] (fun x513 w =>
 CP Try.prog Fn.stripe_Table_Store [a0, x508, x509] (fun x514 w =>
 andP (fun w => andP (fun w => loadNW 3 x476 (fun v w => eqP v x512 w) w) (fun w => andP (fun w => load1W x510 (fun v w => eqP v x511 w) w) (fun w => andP (fun w => trueP w) (fun w => andP (fun w => trueP w) (fun w => trueP w) w) w) w) w) (fun w =>
 CP Try.prog Fn.ref1_Mem_Do [a1, x513] (fun x515 w =>
 andP (fun w => andP (fun w => trueP w) (fun w => andP (fun w => trueP w) (fun w => trueP w) w) w) (fun w =>
 partW false 5 1 x515 (fun x516 w =>
 binIntW .neq x514 x516 (fun x517 w =>
 condP x517 (fun w => K (Value.bool false) w) (fun w => j18  w) w) w) w) w) w) w) w) w) w) w) w) w) w) w) w) (fun w => drewW (fun w => addW 0 x10 (fun x518 w =>
 load1W x518 (fun x519 w =>
 binIntW .and x519 (Value.int .i64 3) (fun x520 w =>
 binIntW .eql x520 (Value.int .i64 3) (fun x521 w =>
 gW x521 true (fun K w => addW 1 x10 K w) (fun x522 w =>
 gW x521 true (fun K w => load1W x522 K w) (fun x523 w =>
 gW x521 true (fun K w => binIntW .geq x523 (Value.int .i64 0) K w) (fun x524 w =>
 pickW x521 x524 (Value.bool false) (fun x525 w =>
 gW x525 true (fun K w => addW 1 x10 K w) (fun x526 w =>
 gW x525 true (fun K w => load1W x526 K w) (fun x527 w =>
 gW x525 true (fun K w => K a1 w) (fun x528 w =>
 gW x525 true (fun K w => nilW x528 K w) (fun x529 w =>
 gW x525 true (fun K w => addW 6 x529 K w) (fun x530 w =>
 gW x525 true (fun K w => load1W x530 K w) (fun x531 w =>
 gW x525 true (fun K w => lenW x531 K w) (fun x532 w =>
 gW x525 true (fun K w => binIntW .lss x527 x532 K w) (fun x533 w =>
 pickW x525 x533 (Value.bool false) (fun x534 w =>
 joinW0 (fun  w =>
 addW 1 x10 (fun x535 w =>
 load1W x535 (fun x536 w =>
 loadNW 3 x385 (fun x537 w =>
 loadNW 3 x476 (fun x538 w =>
 CP Try.prog Fn.stripe_Table_Cas [a0, x536, x537, x538] (fun x539 w =>
 extractW 0 x539 (fun x540 w =>
 extractW 1 x539 (fun x541 w =>
 addW 1 x10 (fun x542 w =>
 load1W x542 (fun x543 w =>
 loadNW 3 x385 (fun x544 w =>
 loadNW 3 x476 (fun x545 w =>
 buildW [(Value.int .i64 0), (Value.int .i64 0), (Value.int .u64 0), (Value.int .u64 0), (Value.int .u64 0), (Value.bool false), (Value.int .i64 0), (Value.int .u64 0), (Value.bool false), (Value.int .i64 0)] [(0, 1, (Value.int .i64 4)), (1, 1, x543), (4, 3, x544), (7, 3, x545)] (fun x546 w =>
 CP Try.prog Fn.ref1_Mem_Do [a1, x546] (fun x547 w =>
 newW #[(Value.int .u64 0), (Value.int .u64 0), (Value.bool false), (Value.int .i64 0), (Value.bool false), (Value.int .i64 0)] (fun x548 w =>
 storeW 6 x548 x547 (fun _ w =>
 addW 4 x548 (fun x550 w =>
 load1W x550 (fun x551 w =>
 binBoolW .neq x540 x551 (fun x552 w =>
 gW x552 false (fun K w => K x541 w) (fun x553 w =>
 gW x552 false (fun K w => addW 5 x548 K w) (fun x554 w =>
 gW x552 false (fun K w => load1W x554 K w) (fun x555 w =>
 gW x552 false (fun K w => binIntW .neq x553 x555 K w) (fun x556 w =>
 pickW x552 (Value.bool true) x556 (fun x557 w =>
 condP x557 (fun w => K (Value.bool false) w) (fun w => j18  w) w) w) w) w) w) w) w) w) w) w) w) w) w) w) w) w) w) w) w) w) w) w) w) w) (fun j19 w =>
 condP x534 (fun w => drewW (fun w => nilW a1 (fun x558 w =>
 addW 6 x558 (fun x559 w =>
 load1W x559 (fun x560 w =>
 addW 1 x10 (fun x561 w =>
 load1W x561 (fun x562 w =>
 idxW 3 x560 x562 (fun x563 w =>
 loadNW 3 x563 (fun x564 w =>
 storeW 3 x385 x564 (fun _ w =>
 andP (fun w => andP (fun w => trueP w) (fun w => andP (fun w => trueP w) (fun w => andP (fun w => trueP w) (fun w => trueP w) w) w) w) (fun w =>
 j19  w) w) w) w) w) w) w) w) w) w) w) (fun w => j19  w) w) w) w) w) w) w) w) w) w) w) w) w) w) w) w) w) w) w) w) w) w) w) w) w) w) w) w) w) w) w) w) w) w) w) w) w) w) w) w) w) w) w) w) w) (fun w => andP (fun w => newW #[(Value.int .u64 0), (Value.bool false), (Value.int .i64 0)] (fun x566 w =>
 andP (fun w => andP (fun w => load1W x19 (fun v w => eqP v x20 w) w) (fun w => andP (fun w => loadNW 3 x17 (fun v w => eqP v x18 w) w) (fun w => andP (fun w => load1W x14 (fun v w => eqP v x15 w) w) (fun w => andP (fun w => loadNW 3 x12 (fun v w => eqP v x13 w) w) (fun w => trueP w) w) w) w) w) (fun w =>
 andP (fun w => CP Try.prog Fn.law3_lockOf [x13, x16] (fun x567 w =>
 andP (fun w => andP (fun w => load1W x19 (fun v w => eqP v x20 w) w) (fun w => andP (fun w => loadNW 3 x17 (fun v w => eqP v x18 w) w) (fun w => andP (fun w => trueP w) (fun w => andP (fun w => trueP w) (fun w => trueP w) w) w) w) w) (fun w =>
 andP (fun w => CP Try.prog Fn.law3_lockOf [x18, x21] (fun x568 w =>
 andP (fun w => andP (fun w => trueP w) (fun w => andP (fun w => trueP w) (fun w => trueP w) w) w) (fun w =>
 newW #[(Value.int .u64 0), (Value.bool false), (Value.int .i64 0)] (fun x569 w =>
 andP (fun w => trueP w) (fun w =>
 storeW 3 x566 x567 (fun _ w =>
 andP (fun w => trueP w) (fun w =>
 storeW 3 x569 x568 (fun _ w =>
 andP (fun w => trueP w) (fun w =>
 addW 0 x10 (fun x572 w =>
 load1W x572 (fun x573 w =>
 binIntW .and x573 (Value.int .i64 3) (fun x574 w =>
 binIntW .eql x574 (Value.int .i64 0) (fun x575 w =>
 joinW0 (fun  w =>
 j1  w) (fun j20 w =>
 condP x575 (fun w => addW 1 x10 (fun x576 w =>
 load1W x576 (fun x577 w =>
 CP Try.prog Fn.stripe_Table_Load [a0, x577] (fun x578 w =>
 extractW 0 x578 (fun x579 w =>
 extractW 1 x578 (fun x580 w =>
 newW #[(Value.int .u64 0), (Value.bool false), (Value.int .i64 0)] (fun x581 w =>
 storeW 3 x581 x579 (fun _ w =>
 addW 1 x10 (fun x583 w =>
 load1W x583 (fun x584 w =>
 buildW [(Value.int .i64 0), (Value.int .i64 0), (Value.int .u64 0), (Value.int .u64 0), (Value.int .u64 0), (Value.bool false), (Value.int .i64 0), (Value.int .u64 0), (Value.bool false), (Value.int .i64 0)] [(0, 1, (Value.int .i64 3)), (1, 1, x584)] (fun x585 w =>
 CP Try.prog Fn.ref1_Mem_Do [a1, x585] (fun x586 w =>
 newW #[(Value.int .u64 0), (Value.int .u64 0), (Value.bool false), (Value.int .i64 0), (Value.bool false), (Value.int .i64 0)] (fun x587 w =>
 storeW 6 x587 x586 (fun _ w =>
 loadNW 3 x581 (fun x589 w =>
 addW 1 x587 (fun x590 w =>
 loadNW 3 x590 (fun x591 w =>
 eqAggW [.i .u64, .b, .i .i64] .neq x589 x591 (fun x592 w =>
 gW x592 false (fun K w => K x580 w) (fun x593 w =>
 gW x592 false (fun K w => addW 5 x587 K w) (fun x594 w =>
 gW x592 false (fun K w => load1W x594 K w) (fun x595 w =>
 gW x592 false (fun K w => binIntW .neq x593 x595 K w) (fun x596 w =>
 pickW x592 (Value.bool true) x596 (fun x597 w =>
 condP x597 (fun w => K (Value.bool false) w) (fun w => j20  w) w) w) w) w) w) w) w) w) w) w) w) w) w) w) w) w) w) w) w) w) w) w) w) (fun w => binIntW .eql x574 (Value.int .i64 1) (fun x598 w =>
 joinW0 (fun  w =>
 j20  w) (fun j21 w =>
 condP x598 (fun w => drewW (fun w => addW 1 x10 (fun x599 w =>
 load1W x599 (fun x600 w =>
 loadNW 3 x566 (fun x601 w =>
 addW 1 x10 (fun x602 w =>
 load1W x602 (fun x603 w =>
 loadNW 3 x566 (fun x604 w =>
 buildW [(Value.int .i64 0), (Value.int .i64 0), (Value.int .u64 0), (Value.int .u64 0), (Value.int .u64 0), (Value.bool false), (Value.int .i64 0), (Value.int .u64 0), (Value.bool false), (Value.int .i64 0)] [(0, 1, (Value.int .i64 5)), (1, 1, x603), (7, 3, x604)] (fun x605 w =>
 CP Try.prog Fn.stripe_Table_Store [a0, x600, x601] (fun x606 w =>
 andP (fun w => andP (fun w => loadNW 3 x566 (fun v w => eqP v x604 w) w) (fun w => andP (fun w => load1W x602 (fun v w => eqP v x603 w) w) (fun w => andP (fun w => trueP w) (fun w => andP (fun w => trueP w) (fun w => trueP w) w) w) w) w) (fun w =>
 CP Try.prog Fn.ref1_Mem_Do [a1, x605] (fun x607 w =>
 andP (fun w => andP (fun w => trueP w) (fun w => andP (fun w => trueP w) (fun w => trueP w) w) w) (fun w =>
 partW false 5 1 x607 (fun x608 w =>
 binIntW .neq x606 x608 (fun x609 w =>
 condP x609 (fun w => K (Value.bool false) w) (fun w => j21  w) w) w) w) w) w) w) w) w) w) w) w) w) w) w) w) (fun w => drewW (fun w => addW 0 x10 (fun x610 w =>
 load1W x610 (fun x611 w =>
 binIntW .and x611 (Value.int .i64 3) (fun x612 w =>
 binIntW .eql x612 (Value.int .i64 3) (fun x613 w =>
 gW x613 true (fun K w => addW 1 x10 K w) (fun x614 w =>
 gW x613 true (fun K w => load1W x614 K w) (fun x615 w =>
 gW x613 true (fun K w => binIntW .geq x615 (Value.int .i64 0) K w) (fun x616 w =>
 pickW x613 x616 (Value.bool false) (fun x617 w =>
 gW x617 true (fun K w => addW 1 x10 K w) (fun x618 w =>
 gW x617 true (fun K w => load1W x618 K w) (fun x619 w =>
 gW x617 true (fun K w => K a1 w) (fun x620 w =>
 gW x617 true (fun K w => nilW x620 K w) (fun x621 w =>
 gW x617 true (fun K w => addW 6 x621 K w) (fun x622 w =>
 gW x617 true (fun K w => load1W x622 K w) (fun x623 w =>
 gW x617 true (fun K w => lenW x623 K w) (fun x624 w =>
 gW x617 true (fun K w => binIntW .lss x619 x624 K w) (fun x625 w =>
 pickW x617 x625 (Value.bool false) (fun x626 w =>
 joinW0 (fun  w =>
 addW 1 x10 (fun x627 w =>
 load1W x627 (fun x628 w =>
 loadNW 3 x569 (fun x629 w =>
 loadNW 3 x566 (fun x630 w =>
 CP Try.prog Fn.stripe_Table_Cas [a0, x628, x629, x630] (fun x631 w =>
 extractW 0 x631 (fun x632 w =>
 extractW 1 x631 (fun x633 w =>
 addW 1 x10 (fun x634 w =>
 load1W x634 (fun x635 w =>
 loadNW 3 x569 (fun x636 w =>
 loadNW 3 x566 (fun x637 w =>
 buildW [(Value.int .i64 0), (Value.int .i64 0), (Value.int .u64 0), (Value.int .u64 0), (Value.int .u64 0), (Value.bool false), (Value.int .i64 0), (Value.int .u64 0), (Value.bool false), (Value.int .i64 0)] [(0, 1, (Value.int .i64 4)), (1, 1, x635), (4, 3, x636), (7, 3, x637)] (fun x638 w =>
 CP Try.prog Fn.ref1_Mem_Do [a1, x638] (fun x639 w =>
 newW #[(Value.int .u64 0), (Value.int .u64 0), (Value.bool false), (Value.int .i64 0), (Value.bool false), (Value.int .i64 0)] (fun x640 w =>
 storeW 6 x640 x639 (fun _ w =>
 addW 4 x640 (fun x642 w =>
 load1W x642 (fun x643 w =>
 binBoolW .neq x632 x643 (fun x644 w =>
 gW x644 false (fun K w => K x633 w) (fun x645 w =>
 gW x644 false (fun K w => addW 5 x640 K w) (fun x646 w =>
 gW x644 false (fun K w => load1W x646 K w) (fun x647 w =>
 gW x644 false (fun K w => binIntW .neq x645 x647 K w) (fun x648 w =>
 pickW x644 (Value.bool true) x648 (fun x649 w =>
 condP x649 (fun w => K (Value.bool false) w) (fun w => j21  w) w) w) w) w) w) w) w) w) w) w) w) w) w) w) w) w) w) w) w) w) w) w) w) w) (fun j22 w =>
 condP x626 (fun w => drewW (fun w => nilW a1 (fun x650 w =>
 addW 6 x650 (fun x651 w =>
 load1W x651 (fun x652 w =>
 addW 1 x10 (fun x653 w =>
 load1W x653 (fun x654 w =>
 idxW 3 x652 x654 (fun x655 w =>
 loadNW 3 x655 (fun x656 w =>
 storeW 3 x569 x656 (fun _ w =>
 andP (fun w => andP (fun w => trueP w) (fun w => andP (fun w => trueP w) (fun w => andP (fun w => trueP w) (fun w => trueP w) w) w) w) (fun w =>
 j22  w) w) w) w) w) w) w) w) w) w) w) (fun w => j22  w) w) w) w) w) w) w) w) w) w) w) w) w) w) w) w) w) w) w) w) w) w) w) w) w) w) w) w) w) w) w) w) w) w) w) w) w) w) (fun w => newW #[(Value.int .u64 0), (Value.bool false), (Value.int .i64 0)] (fun x658 w =>
 andP (fun w => andP (fun w => load1W x19 (fun v w => eqP v x20 w) w) (fun w => andP (fun w => loadNW 3 x17 (fun v w => eqP v x18 w) w) (fun w => trueP w) w) w) (fun w =>
 CP Try.prog Fn.law3_lockOf [x18, x21] (fun x659 w =>
 andP (fun w => andP (fun w => trueP w) (fun w => andP (fun w => trueP w) (fun w => trueP w) w) w) (fun w =>
 storeW 3 x566 x567 (fun _ w =>
 andP (fun w => trueP w) (fun w =>
 storeW 3 x658 x659 (fun _ w =>
 andP (fun w => trueP w) (fun w =>
 addW 0 x10 (fun x662 w =>
 load1W x662 (fun x663 w =>
 binIntW .and x663 (Value.int .i64 3) (fun x664 w =>
 binIntW .eql x664 (Value.int .i64 0) (fun x665 w =>
 joinW0 (fun  w =>
 j1  w) (fun j23 w =>
 condP x665 (fun w => addW 1 x10 (fun x666 w =>
 load1W x666 (fun x667 w =>
 CP Try.prog Fn.stripe_Table_Load [a0, x667] (fun x668 w =>
 extractW 0 x668 (fun x669 w =>
 extractW 1 x668 (fun x670 w =>
 newW #[(Value.int .u64 0), (Value.bool false), (Value.int .i64 0)] (fun x671 w =>
 storeW 3 x671 x669 (fun _ w =>
 addW 1 x10 (fun x673 w =>
 load1W x673 (fun x674 w =>
 buildW [(Value.int .i64 0), (Value.int .i64 0), (Value.int .u64 0), (Value.int .u64 0), (Value.int .u64 0), (Value.bool false), (Value.int .i64 0), (Value.int .u64 0), (Value.bool false), (Value.int .i64 0)] [(0, 1, (Value.int .i64 3)), (1, 1, x674)] (fun x675 w =>
 CP Try.prog Fn.ref1_Mem_Do [a1, x675] (fun x676 w =>
 newW #[(Value.int .u64 0), (Value.int .u64 0), (Value.bool false), (Value.int .i64 0), (Value.bool false), (Value.int .i64 0)] (fun x677 w =>
 storeW 6 x677 x676 (fun _ w =>
 loadNW 3 x671 (fun x679 w =>
 addW 1 x677 (fun x680 w =>
 loadNW 3 x680 (fun x681 w =>
 eqAggW [.i .u64, .b, .i .i64] .neq x679 x681 (fun x682 w =>
 gW x682 false (fun K w => K x670 w) (fun x683 w =>
 gW x682 false (fun K w => addW 5 x677 K w) (fun x684 w =>
 gW x682 false (fun K w => load1W x684 K w) (fun x685 w =>
 gW x682 false (fun K w => binIntW .neq x683 x685 K w) (fun x686 w =>
 pickW x682 (Value.bool true) x686 (fun x687 w =>
 condP x687 (fun w => K (Value.bool false) w) (fun w => j23  w) w) w) w) w) w) w) w) w) w) w) w) w) w) w) w) w) w) w) w) w) w) w) w) (fun w => binIntW .eql x664 (Value.int .i64 1) (fun x688 w =>
 joinW0 (fun  w =>
 j23  w) (fun j24 w =>
 condP x688 (fun w => drewW (fun w => addW 1 x10 (fun x689 w =>
 load1W x689 (fun x690 w =>
 loadNW 3 x566 (fun x691 w =>
 addW 1 x10 (fun x692 w =>
 load1W x692 (fun x693 w =>
 loadNW 3 x566 (fun x694 w =>
 buildW [(Value.int .i64 0), (Value.int .i64 0), (Value.int .u64 0), (Value.int .u64 0), (Value.int .u64 0), (Value.bool false), (Value.int .i64 0), (Value.int .u64 0), (Value.bool false), (Value.int .i64 0)] [(0, 1, (Value.int .i64 5)), (1, 1, x693), (7, 3, x694)] (fun x695 w =>
 CP Try.prog Fn.stripe_Table_Store [a0, x690, x691] (fun x696 w =>
 andP (fun w => andP (fun w => loadNW 3 x566 (fun v w => eqP v x694 w) w) (fun w => andP (fun w => load1W x692 (fun v w => eqP v x693 w) w) (fun w => andP (fun w => trueP w) (fun w => andP (fun w => trueP w) (fun w => trueP w) w) w) w) w) (fun w =>
 CP Try.prog Fn.ref1_Mem_Do [a1, x695] (fun x697 w =>
 andP (fun w => andP (fun w => trueP w) (fun w => andP (fun w => trueP w) (fun w => trueP w) w) w) (fun w =>
 partW false 5 1 x697 (fun x698 w =>
 binIntW .neq x696 x698 (fun x699 w =>
 condP x699 (fun w => K (Value.bool false) w) (fun w => j24  w) w) w) w) w) w) w) w) w) w) w) w) w) w) w) w) (fun w => drewW (fun w => addW 0 x10 (fun x700 w =>
 load1W x700 (fun x701 w =>
 binIntW .and x701 (Value.int .i64 3) (fun x702 w =>
 binIntW .eql x702 (Value.int .i64 3) (fun x703 w =>
 gW x703 true (fun K w => addW 1 x10 K w) (fun x704 w =>
 gW x703 true (fun K w => load1W x704 K w) (fun x705 w =>
 gW x703 true (fun K w => binIntW .geq x705 (Value.int .i64 0) K w) (fun x706 w =>
 pickW x703 x706 (Value.bool false) (fun x707 w =>
 gW x707 true (fun K w => addW 1 x10 K w) (fun x708 w =>
 gW x707 true (fun K w => load1W x708 K w) (fun x709 w =>
 gW x707 true (fun K w => K a1 w) (fun x710 w =>
 gW x707 true (fun K w => nilW x710 K w) (fun x711 w =>
 gW x707 true (fun K w => addW 6 x711 K w) (fun x712 w =>
 gW x707 true (fun K w => load1W x712 K w) (fun x713 w =>
 gW x707 true (fun K w => lenW x713 K w) (fun x714 w =>
 gW x707 true (fun K w => binIntW .lss x709 x714 K w) (fun x715 w =>
 pickW x707 x715 (Value.bool false) (fun x716 w =>
 joinW0 (fun  w =>
 addW 1 x10 (fun x717 w =>
 load1W x717 (fun x718 w =>
 loadNW 3 x658 (fun x719 w =>
 loadNW 3 x566 (fun x720 w =>
 CP Try.prog Fn.stripe_Table_Cas [a0, x718, x719, x720] (fun x721 w =>
 extractW 0 x721 (fun x722 w =>
 extractW 1 x721 (fun x723 w =>
 addW 1 x10 (fun x724 w =>
 load1W x724 (fun x725 w =>
 loadNW 3 x658 (fun x726 w =>
 loadNW 3 x566 (fun x727 w =>
 buildW [(Value.int .i64 0), (Value.int .i64 0), (Value.int .u64 0), (Value.int .u64 0), (Value.int .u64 0), (Value.bool false), (Value.int .i64 0), (Value.int .u64 0), (Value.bool false), (Value.int .i64 0)] [(0, 1, (Value.int .i64 4)), (1, 1, x725), (4, 3, x726), (7, 3, x727)] (fun x728 w =>
 CP Try.prog Fn.ref1_Mem_Do [a1, x728] (fun x729 w =>
 newW #[(Value.int .u64 0), (Value.int .u64 0), (Value.bool false), (Value.int .i64 0), (Value.bool false), (Value.int .i64 0)] (fun x730 w =>
 storeW 6 x730 x729 (fun _ w =>
 addW 4 x730 (fun x732 w =>
 load1W x732 (fun x733 w =>
 binBoolW .neq x722 x733 (fun x734 w =>
 gW x734 false (fun K w => K x723 w) (fun x735 w =>
 gW x734 false (fun K w => addW 5 x730 K w) (fun x736 w =>
 gW x734 false (fun K w => load1W x736 K w) (fun x737 w =>
 gW x734 false (fun K w => binIntW .neq x735 x737 K w) (fun x738 w =>
 pickW x734 (Value.bool true) x738 (fun x739 w =>
 condP x739 (fun w => K (Value.bool false) w) (fun w => j24  w) w) w) w) w) w) w) w) w) w) w) w) w) w) w) w) w) w) w) w) w) w) w) w) w) (fun j25 w =>
 condP x716 (fun w => drewW (fun w => nilW a1 (fun x740 w =>
 addW 6 x740 (fun x741 w =>
 load1W x741 (fun x742 w =>
 addW 1 x10 (fun x743 w =>
 load1W x743 (fun x744 w =>
 idxW 3 x742 x744 (fun x745 w =>
 loadNW 3 x745 (fun x746 w =>
 storeW 3 x658 x746 (fun _ w =>
 andP (fun w => andP (fun w => trueP w) (fun w => andP (fun w => trueP w) (fun w => andP (fun w => trueP w) (fun w => trueP w) w) w) w) (fun w =>
 j25  w) w) w) w) w) w) w) w) w) w) w) (fun w => j25  w) w) w) w) w) w) w) w) w) w) w) w) w) w) w) w) w) w) w) w) w) w) w) w) w) w) w) w) w) w) w) w) w) w) w) w) w) w) w) w) w) (fun w => newW #[(Value.int .u64 0), (Value.bool false), (Value.int .i64 0)] (fun x748 w =>
 andP (fun w => andP (fun w => load1W x19 (fun v w => eqP v x20 w) w) (fun w => andP (fun w => loadNW 3 x17 (fun v w => eqP v x18 w) w) (fun w => andP (fun w => load1W x14 (fun v w => eqP v x15 w) w) (fun w => andP (fun w => loadNW 3 x12 (fun v w => eqP v x13 w) w) (fun w => trueP w) w) w) w) w) (fun w =>
 CP Try.prog Fn.law3_lockOf [x13, x16] (fun x749 w =>
 andP (fun w => andP (fun w => load1W x19 (fun v w => eqP v x20 w) w) (fun w => andP (fun w => loadNW 3 x17 (fun v w => eqP v x18 w) w) (fun w => andP (fun w => trueP w) (fun w => andP (fun w => trueP w) (fun w => trueP w) w) w) w) w) (fun w =>
 CP Try.prog Fn.law3_lockOf [x18, x21] (fun x750 w =>
 andP (fun w => andP (fun w => trueP w) (fun w => andP (fun w => trueP w) (fun w => trueP w) w) w) (fun w =>
 storeW 3 x566 x749 (fun _ w =>
 andP (fun w => trueP w) (fun w =>
 storeW 3 x748 x750 (fun _ w =>
 andP (fun w => trueP w) (fun w =>
 addW 0 x10 (fun x753 w =>
 load1W x753 (fun x754 w =>
 binIntW .and x754 (Value.int .i64 3) (fun x755 w =>
 binIntW .eql x755 (Value.int .i64 0) (fun x756 w =>
 joinW0 (fun  w =>
 j1  w) (fun j26 w =>
 condP x756 (fun w => addW 1 x10 (fun x757 w =>
 load1W x757 (fun x758 w =>
 CP Try.prog Fn.stripe_Table_Load [a0, x758] (fun x759 w =>
 extractW 0 x759 (fun x760 w =>
 extractW 1 x759 (fun x761 w =>
 newW #[(Value.int .u64 0), (Value.bool false), (Value.int .i64 0)] (fun x762 w =>
 storeW 3 x762 x760 (fun _ w =>
 addW 1 x10 (fun x764 w =>
 load1W x764 (fun x765 w =>
 buildW [(Value.int .i64 0), (Value.int .i64 0), (Value.int .u64 0), (Value.int .u64 0), (Value.int .u64 0), (Value.bool false), (Value.int .i64 0), (Value.int .u64 0), (Value.bool false), (Value.int .i64 0)] [(0, 1, (Value.int .i64 3)), (1, 1, x765)] (fun x766 w =>
 CP Try.prog Fn.ref1_Mem_Do [a1, x766] (fun x767 w =>
 newW #[(Value.int .u64 0), (Value.int .u64 0), (Value.bool false), (Value.int .i64 0), (Value.bool false), (Value.int .i64 0)] (fun x768 w =>
 storeW 6 x768 x767 (fun _ w =>
 loadNW 3 x762 (fun x770 w =>
 addW 1 x768 (fun x771 w =>
 loadNW 3 x771 (fun x772 w =>
 eqAggW [.i .u64, .b, .i .i64] .neq x770 x772 (fun x773 w =>
 gW x773 false (fun K w => K x761 w) (fun x774 w =>
 gW x773 false (fun K w => addW 5 x768 K w) (fun x775 w =>
 gW x773 false (fun K w => load1W x775 K w) (fun x776 w =>
 gW x773 false (fun K w => binIntW .neq x774 x776 K w) (fun x777 w =>
 pickW x773 (Value.bool true) x777 (fun x778 w =>
 condP x778 (fun w => K (Value.bool false) w) (fun w => j26  w) w) w) w) w) w) w) w) w) w) w) w) w) w) w) w) w) w) w) w) w) w) w) w) (fun w => binIntW .eql x755 (Value.int .i64 1) (fun x779 w =>
 joinW0 (fun  w =>
 j26  w) (fun j27 w =>
 condP x779 (fun w => drewW (fun w => addW 1 x10 (fun x780 w =>
 load1W x780 (fun x781 w =>
 loadNW 3 x566 (fun x782 w =>
 addW 1 x10 (fun x783 w =>
 load1W x783 (fun x784 w =>
 loadNW 3 x566 (fun x785 w =>
 buildW [(Value.int .i64 0), (Value.int .i64 0), (Value.int .u64 0), (Value.int .u64 0), (Value.int .u64 0), (Value.bool false), (Value.int .i64 0), (Value.int .u64 0), (Value.bool false), (Value.int .i64 0)] [(0, 1, (Value.int .i64 5)), (1, 1, x784), (7, 3, x785)] (fun x786 w =>
 CP Try.prog Fn.stripe_Table_Store [a0, x781, x782] (fun x787 w =>
 andP (fun w => andP (fun w => loadNW 3 x566 (fun v w => eqP v x785 w) w) (fun w => andP (fun w => load1W x783 (fun v w => eqP v x784 w) w) (fun w => andP (fun w => trueP w) (fun w => andP (fun w => trueP w) (fun w => trueP w) w) w) w) w) (fun w =>
 CP Try.prog Fn.ref1_Mem_Do [a1, x786] (fun x788 w =>
 andP (fun w => andP (fun w => trueP w) (fun w => andP (fun w => trueP w) (fun w => trueP w) w) w) (fun w =>
 partW false 5 1 x788 (fun x789 w =>
 binIntW .neq x787 x789 (fun x790 w =>
 condP x790 (fun w => K (Value.bool false) w) (fun w => j27  w) w) w) w) w) w) w) w) w) w) w) w) w) w) w) w) (fun w => drewW (fun w => addW 0 x10 (fun x791 w =>
 load1W x791 (fun x792 w =>
 binIntW .and x792 (Value.int .i64 3) (fun x793 w =>
 binIntW .eql x793 (Value.int .i64 3) (fun x794 w =>
 gW x794 true (fun K w => addW 1 x10 K w) (fun x795 w =>
 gW x794 true (fun K w => load1W x795 K w) (fun x796 w =>
 gW x794 true (fun K w => binIntW .geq x796 (Value.int .i64 0) K w) (fun x797 w =>
 pickW x794 x797 (Value.bool false) (fun x798 w =>
 gW x798 true (fun K w => addW 1 x10 K w) (fun x799 w =>
 gW x798 true (fun K w => load1W x799 K w) (fun x800 w =>
 gW x798 true (fun K w => K a1 w) (fun x801 w =>
 gW x798 true (fun K w => nilW x801 K w) (fun x802 w =>
 gW x798 true (fun K w => addW 6 x802 K w) (fun x803 w =>
 gW x798 true (fun K w => load1W x803 K w) (fun x804 w =>
 gW x798 true (fun K w => lenW x804 K w) (fun x805 w =>
 gW x798 true (fun K w => binIntW .lss x800 x805 K w) (fun x806 w =>
 pickW x798 x806 (Value.bool false) (fun x807 w =>
 joinW0 (fun  w =>
 addW 1 x10 (fun x808 w =>
 load1W x808 (fun x809 w =>
 loadNW 3 x748 (fun x810 w =>
 loadNW 3 x566 (fun x811 w =>
 CP Try.prog Fn.stripe_Table_Cas [a0, x809, x810, x811] (fun x812 w =>
 extractW 0 x812 (fun x813 w =>
 extractW 1 x812 (fun x814 w =>
 addW 1 x10 (fun x815 w =>
 load1W x815 (fun x816 w =>
 loadNW 3 x748 (fun x817 w =>
 loadNW 3 x566 (fun x818 w =>
 buildW [(Value.int .i64 0), (Value.int .i64 0), (Value.int .u64 0), (Value.int .u64 0), (Value.int .u64 0), (Value.bool false), (Value.int .i64 0), (Value.int .u64 0), (Value.bool false), (Value.int .i64 0)] [(0, 1, (Value.int .i64 4)), (1, 1, x816), (4, 3, x817), (7, 3, x818)] (fun x819 w =>
 CP Try.prog Fn.ref1_Mem_Do [a1, x819] (fun x820 w =>
 newW #[(Value.int .u64 0), (Value.int .u64 0), (Value.bool false), (Value.int .i64 0), (Value.bool false), (Value.int .i64 0)] (fun x821 w =>
 storeW 6 x821 x820 (fun _ w =>
 addW 4 x821 (fun x823 w =>
 load1W x823 (fun x824 w =>
 binBoolW .neq x813 x824 (fun x825 w =>
 gW x825 false (fun K w => K x814 w) (fun x826 w =>
 gW x825 false (fun K w => addW 5 x821 K w) (fun x827 w =>
 gW x825 false (fun K w => load1W x827 K w) (fun x828 w =>
 gW x825 false (fun K w => binIntW .neq x826 x828 K w) (fun x829 w =>
 pickW x825 (Value.bool true) x829 (fun x830 w =>
 condP x830 (fun w => K (Value.bool false) w) (fun w => j27  w) w) w) w) w) w) w) w) w) w) w) w) w) w) w) w) w) w) w) w) w) w) w) w) w) (fun j28 w =>
 condP x807 (fun w => drewW (fun w => nilW a1 (fun x831 w =>
 addW 6 x831 (fun x832 w =>
 load1W x832 (fun x833 w =>
 addW 1 x10 (fun x834 w =>
 load1W x834 (fun x835 w =>
 idxW 3 x833 x835 (fun x836 w =>
 loadNW 3 x836 (fun x837 w =>
 storeW 3 x748 x837 (fun _ w =>
 andP (fun w => andP (fun w => trueP w) (fun w => andP (fun w => trueP w) (fun w => andP (fun w => trueP w) (fun w => trueP w) w) w) w) (fun w =>
 j28  w) w) w) w) w) w) w) w) w) w) w) (fun w => j28  w) w) w) w) w) w) w) w) w) w) w) w) w) w) w) w) w) w) w) w) w) w) w) w) w) w) w) w) w) w) w) w) w) w) w) w) w) w) w) w) w) w) w) (fun w => newW #[(Value.int .u64 0), (Value.bool false), (Value.int .i64 0)] (fun x839 w =>
 andP (fun w => andP (fun w => load1W x19 (fun v w => eqP v x20 w) w) (fun w => andP (fun w => loadNW 3 x17 (fun v w => eqP v x18 w) w) (fun w => andP (fun w => load1W x14 (fun v w => eqP v x15 w) w) (fun w => andP (fun w => loadNW 3 x12 (fun v w => eqP v x13 w) w) (fun w => trueP w) w) w) w) w) (fun w =>
 andP (fun w => CP Try.prog Fn.law3_lockOf [x13, x16] (fun x840 w =>
 andP (fun w => andP (fun w => load1W x19 (fun v w => eqP v x20 w) w) (fun w => andP (fun w => loadNW 3 x17 (fun v w => eqP v x18 w) w) (fun w => andP (fun w => trueP w) (fun w => andP (fun w => trueP w) (fun w => trueP w) w) w) w) w) (fun w =>
 andP (fun w => CP Try.prog Fn.law3_lockOf [x18, x21] (fun x841 w =>
 andP (fun w => andP (fun w => trueP w) (fun w => andP (fun w => trueP w) (fun w => trueP w) w) w) (fun w =>
 newW #[(Value.int .u64 0), (Value.bool false), (Value.int .i64 0)] (fun x842 w =>
 andP (fun w => trueP w) (fun w =>
 storeW 3 x842 x840 (fun _ w =>
 andP (fun w => trueP w) (fun w =>
 storeW 3 x839 x841 (fun _ w =>
 andP (fun w => trueP w) (fun w =>
 addW 0 x10 (fun x845 w =>
 load1W x845 (fun x846 w =>
 binIntW .and x846 (Value.int .i64 3) (fun x847 w =>
 binIntW .eql x847 (Value.int .i64 0) (fun x848 w =>
 joinW0 (fun  w =>
 j1  w) (fun j29 w =>
 condP x848 (fun w => addW 1 x10 (fun x849 w =>
 load1W x849 (fun x850 w =>
 CP Try.prog Fn.stripe_Table_Load [a0, x850] (fun x851 w =>
 extractW 0 x851 (fun x852 w =>
 extractW 1 x851 (fun x853 w =>
 newW #[(Value.int .u64 0), (Value.bool false), (Value.int .i64 0)] (fun x854 w =>
 storeW 3 x854 x852 (fun _ w =>
 addW 1 x10 (fun x856 w =>
 load1W x856 (fun x857 w =>
 buildW [(Value.int .i64 0), (Value.int .i64 0), (Value.int .u64 0), (Value.int .u64 0), (Value.int .u64 0), (Value.bool false), (Value.int .i64 0), (Value.int .u64 0), (Value.bool false), (Value.int .i64 0)] [(0, 1, (Value.int .i64 3)), (1, 1, x857)] (fun x858 w =>
 CP Try.prog Fn.ref1_Mem_Do [a1, x858] (fun x859 w =>
 newW #[(Value.int .u64 0), (Value.int .u64 0), (Value.bool false), (Value.int .i64 0), (Value.bool false), (Value.int .i64 0)] (fun x860 w =>
 storeW 6 x860 x859 (fun _ w =>
 loadNW 3 x854 (fun x862 w =>
 addW 1 x860 (fun x863 w =>
 loadNW 3 x863 (fun x864 w =>
 eqAggW [.i .u64, .b, .i .i64] .neq x862 x864 (fun x865 w =>
 gW x865 false (fun K w => K x853 w) (fun x866 w =>
 gW x865 false (fun K w => addW 5 x860 K w) (fun x867 w =>
 gW x865 false (fun K w => load1W x867 K w) (fun x868 w =>
 gW x865 false (fun K w => binIntW .neq x866 x868 K w) (fun x869 w =>
 pickW x865 (Value.bool true) x869 (fun x870 w =>
 condP x870 (fun w => K (Value.bool false) w) (fun w => j29  w) w) w) w) w) w) w) w) w) w) w) w) w) w) w) w) w) w) w) w) w) w) w) w) (fun w => binIntW .eql x847 (Value.int .i64 1) (fun x871 w =>
 joinW0 (fun  w =>
 j29  w) (fun j30 w =>
 condP x871 (fun w => drewW (fun w => addW 1 x10 (fun x872 w =>
 load1W x872 (fun x873 w =>
 loadNW 3 x842 (fun x874 w =>
 addW 1 x10 (fun x875 w =>
 load1W x875 (fun x876 w =>
 loadNW 3 x842 (fun x877 w =>
 buildW [(Value.int .i64 0), (Value.int .i64 0), (Value.int .u64 0), (Value.int .u64 0), (Value.int .u64 0), (Value.bool false), (Value.int .i64 0), (Value.int .u64 0), (Value.bool false), (Value.int .i64 0)] [(0, 1, (Value.int .i64 5)), (1, 1, x876), (7, 3, x877)] (fun x878 w =>
 CP Try.prog Fn.stripe_Table_Store [a0, x873, x874] (fun x879 w =>
 andP (fun w => andP (fun w => loadNW 3 x842 (fun v w => eqP v x877 w) w) (fun w => andP (fun w => load1W x875 (fun v w => eqP v x876 w) w) (fun w => andP (fun w => trueP w) (fun w => andP (fun w => trueP w) (fun w => trueP w) w) w) w) w) (fun w =>
 CP Try.prog Fn.ref1_Mem_Do [a1, x878] (fun x880 w =>
 andP (fun w => andP (fun w => trueP w) (fun w => andP (fun w => trueP w) (fun w => trueP w) w) w) (fun w =>
 partW false 5 1 x880 (fun x881 w =>
 binIntW .neq x879 x881 (fun x882 w =>
 condP x882 (fun w => K (Value.bool false) w) (fun w => j30  w) w) w) w) w) w) w) w) w) w) w) w) w) w) w) w) (fun w => drewW (fun w => addW 0 x10 (fun x883 w =>
 load1W x883 (fun x884 w =>
 binIntW .and x884 (Value.int .i64 3) (fun x885 w =>
 binIntW .eql x885 (Value.int .i64 3) (fun x886 w =>
 gW x886 true (fun K w => addW 1 x10 K w) (fun x887 w =>
 gW x886 true (fun K w => load1W x887 K w) (fun x888 w =>
 gW x886 true (fun K w => binIntW .geq x888 (Value.int .i64 0) K w) (fun x889 w =>
 pickW x886 x889 (Value.bool false) (fun x890 w =>
 gW x890 true (fun K w => addW 1 x10 K w) (fun x891 w =>
 gW x890 true (fun K w => load1W x891 K w) (fun x892 w =>
 gW x890 true (fun K w => K a1 w) (fun x893 w =>
 gW x890 true (fun K w => nilW x893 K w) (fun x894 w =>
 gW x890 true (fun K w => addW 6 x894 K w) (fun x895 w =>
 gW x890 true (fun K w => load1W x895 K w) (fun x896 w =>
 gW x890 true (fun K w => lenW x896 K w) (fun x897 w =>
 gW x890 true (fun K w => binIntW .lss x892 x897 K w) (fun x898 w =>
 pickW x890 x898 (Value.bool false) (fun x899 w =>
 joinW0 (fun  w =>
 addW 1 x10 (fun x900 w =>
 load1W x900 (fun x901 w =>
 loadNW 3 x839 (fun x902 w =>
 loadNW 3 x842 (fun x903 w =>
 CP Try.prog Fn.stripe_Table_Cas [a0, x901, x902, x903] (fun x904 w =>
 extractW 0 x904 (fun x905 w =>
 extractW 1 x904 (fun x906 w =>
 addW 1 x10 (fun x907 w =>
 load1W x907 (fun x908 w =>
 loadNW 3 x839 (fun x909 w =>
 loadNW 3 x842 (fun x910 w =>
 buildW [(Value.int .i64 0), (Value.int .i64 0), (Value.int .u64 0), (Value.int .u64 0), (Value.int .u64 0), (Value.bool false), (Value.int .i64 0), (Value.int .u64 0), (Value.bool false), (Value.int .i64 0)] [(0, 1, (Value.int .i64 4)), (1, 1, x908), (4, 3, x909), (7, 3, x910)] (fun x911 w =>
 CP Try.prog Fn.ref1_Mem_Do [a1, x911] (fun x912 w =>
 newW #[(Value.int .u64 0), (Value.int .u64 0), (Value.bool false), (Value.int .i64 0), (Value.bool false), (Value.int .i64 0)] (fun x913 w =>
 storeW 6 x913 x912 (fun _ w =>
 addW 4 x913 (fun x915 w =>
 load1W x915 (fun x916 w =>
 binBoolW .neq x905 x916 (fun x917 w =>
 gW x917 false (fun K w => K x906 w) (fun x918 w =>
 gW x917 false (fun K w => addW 5 x913 K w) (fun x919 w =>
 gW x917 false (fun K w => load1W x919 K w) (fun x920 w =>
 gW x917 false (fun K w => binIntW .neq x918 x920 K w) (fun x921 w =>
 pickW x917 (Value.bool true) x921 (fun x922 w =>
 condP x922 (fun w => K (Value.bool false) w) (fun w => j30  w) w) w) w) w) w) w) w) w) w) w) w) w) w) w) w) w) w) w) w) w) w) w) w) w) (fun j31 w =>
 condP x899 (fun w => drewW (fun w => nilW a1 (fun x923 w =>
 addW 6 x923 (fun x924 w =>
 load1W x924 (fun x925 w =>
 addW 1 x10 (fun x926 w =>
 load1W x926 (fun x927 w =>
 idxW 3 x925 x927 (fun x928 w =>
 loadNW 3 x928 (fun x929 w =>
 storeW 3 x839 x929 (fun _ w =>
 andP (fun w => andP (fun w => trueP w) (fun w => andP (fun w => trueP w) (fun w => andP (fun w => trueP w) (fun w => trueP w) w) w) w) (fun w =>
 j31  w) w) w) w) w) w) w) w) w) w) w) (fun w => j31  w) w) w) w) w) w) w) w) w) w) w) w) w) w) w) w) w) w) w) w) w) w) w) w) w) w) w) w) w) w) w) w) w) w) w) w) w) w) (fun w => newW #[(Value.int .u64 0), (Value.bool false), (Value.int .i64 0)] (fun x931 w =>
 andP (fun w => andP (fun w => load1W x19 (fun v w => eqP v x20 w) w) (fun w => andP (fun w => loadNW 3 x17 (fun v w => eqP v x18 w) w) (fun w => trueP w) w) w) (fun w =>
 CP Try.prog Fn.law3_lockOf [x18, x21] (fun x932 w =>
 andP (fun w => andP (fun w => trueP w) (fun w => andP (fun w => trueP w) (fun w => trueP w) w) w) (fun w =>
 storeW 3 x931 x840 (fun _ w =>
 andP (fun w => trueP w) (fun w =>
 storeW 3 x839 x932 (fun _ w =>
 andP (fun w => trueP w) (fun w =>
 addW 0 x10 (fun x935 w =>
 load1W x935 (fun x936 w =>
 binIntW .and x936 (Value.int .i64 3) (fun x937 w =>
 binIntW .eql x937 (Value.int .i64 0) (fun x938 w =>
 joinW0 (fun  w =>
 j1  w) (fun j32 w =>
 condP x938 (fun w => addW 1 x10 (fun x939 w =>
 load1W x939 (fun x940 w =>
 CP Try.prog Fn.stripe_Table_Load [a0, x940] (fun x941 w =>
 extractW 0 x941 (fun x942 w =>
 extractW 1 x941 (fun x943 w =>
 newW #[(Value.int .u64 0), (Value.bool false), (Value.int .i64 0)] (fun x944 w =>
 storeW 3 x944 x942 (fun _ w =>
 addW 1 x10 (fun x946 w =>
 load1W x946 (fun x947 w =>
 buildW [(Value.int .i64 0), (Value.int .i64 0), (Value.int .u64 0), (Value.int .u64 0), (Value.int .u64 0), (Value.bool false), (Value.int .i64 0), (Value.int .u64 0), (Value.bool false), (Value.int .i64 0)] [(0, 1, (Value.int .i64 3)), (1, 1, x947)] (fun x948 w =>
 CP Try.prog Fn.ref1_Mem_Do [a1, x948] (fun x949 w =>
 newW #[(Value.int .u64 0), (Value.int .u64 0), (Value.bool false), (Value.int .i64 0), (Value.bool false), (Value.int .i64 0)] (fun x950 w =>
 storeW 6 x950 x949 (fun _ w =>
 loadNW 3 x944 (fun x952 w =>
 addW 1 x950 (fun x953 w =>
 loadNW 3 x953 (fun x954 w =>
 eqAggW [.i .u64, .b, .i .i64] .neq x952 x954 (fun x955 w =>
 gW x955 false (fun K w => K x943 w) (fun x956 w =>
 gW x955 false (fun K w => addW 5 x950 K w) (fun x957 w =>
 gW x955 false (fun K w => load1W x957 K w) (fun x958 w =>
 gW x955 false (fun K w => binIntW .neq x956 x958 K w) (fun x959 w =>
 pickW x955 (Value.bool true) x959 (fun x960 w =>
 condP x960 (fun w => K (Value.bool false) w) (fun w => j32  w) w) w) w) w) w) w) w) w) w) w) w) w) w) w) w) w) w) w) w) w) w) w) w) (fun w => binIntW .eql x937 (Value.int .i64 1) (fun x961 w =>
 joinW0 (fun  w =>
 j32  w) (fun j33 w =>
 condP x961 (fun w => drewW (fun w => addW 1 x10 (fun x962 w =>
 load1W x962 (fun x963 w =>
 loadNW 3 x931 (fun x964 w =>
 addW 1 x10 (fun x965 w =>
 load1W x965 (fun x966 w =>
 loadNW 3 x931 (fun x967 w =>
 buildW [(Value.int .i64 0), (Value.int .i64 0), (Value.int .u64 0), (Value.int .u64 0), (Value.int .u64 0), (Value.bool false), (Value.int .i64 0), (Value.int .u64 0), (Value.bool false), (Value.int .i64 0)] [(0, 1, (Value.int .i64 5)), (1, 1, x966), (7, 3, x967)] (fun x968 w =>
 CP Try.prog Fn.stripe_Table_Store [a0, x963, x964] (fun x969 w =>
 andP (fun w => andP (fun w => loadNW 3 x931 (fun v w => eqP v x967 w) w) (fun w => andP (fun w => load1W x965 (fun v w => eqP v x966 w) w) (fun w => andP (fun w => trueP w) (fun w => andP (fun w => trueP w) (fun w => trueP w) w) w) w) w) (fun w =>
 CP Try.prog Fn.ref1_Mem_Do [a1, x968] (fun x970 w =>
 andP (fun w => andP (fun w => trueP w) (fun w => andP (fun w => trueP w) (fun w => trueP w) w) w) (fun w =>
 partW false 5 1 x970 (fun x971 w =>
 binIntW .neq x969 x971 (fun x972 w =>
 condP x972 (fun w => K (Value.bool false) w) (fun w => j33  w) w) w) w) w) w) w) w) w) w) w) w) w) w) w) w) (fun w => drewW (fun w => addW 0 x10 (fun x973 w =>
 load1W x973 (fun x974 w =>
 binIntW .and x974 (Value.int .i64 3) (fun x975 w =>
 binIntW .eql x975 (Value.int .i64 3) (fun x976 w =>
 gW x976 true (fun K w => addW 1 x10 K w) (fun x977 w =>
 gW x976 true (fun K w => load1W x977 K w) (fun x978 w =>
 gW x976 true (fun K w => binIntW .geq x978 (Value.int .i64 0) K w) (fun x979 w =>
 pickW x976 x979 (Value.bool false) (fun x980 w =>
 gW x980 true (fun K w => addW 1 x10 K w) (fun x981 w =>
 gW x980 true (fun K w => load1W x981 K w) (fun x982 w =>
 gW x980 true (fun K w => K a1 w) (fun x983 w =>
 gW x980 true (fun K w => nilW x983 K w) (fun x984 w =>
 gW x980 true (fun K w => addW 6 x984 K w) (fun x985 w =>
 gW x980 true (fun K w => load1W x985 K w) (fun x986 w =>
 gW x980 true (fun K w => lenW x986 K w) (fun x987 w =>
 gW x980 true (fun K w => binIntW .lss x982 x987 K w) (fun x988 w =>
 pickW x980 x988 (Value.bool false) (fun x989 w =>
 joinW0 (fun  w =>
 addW 1 x10 (fun x990 w =>
 load1W x990 (fun x991 w =>
 loadNW 3 x839 (fun x992 w =>
 loadNW 3 x931 (fun x993 w =>
 CP Try.prog Fn.stripe_Table_Cas [a0, x991, x992, x993] (fun x994 w =>
 extractW 0 x994 (fun x995 w =>
 extractW 1 x994 (fun x996 w =>
 addW 1 x10 (fun x997 w =>
 load1W x997 (fun x998 w =>
 loadNW 3 x839 (fun x999 w =>
 loadNW 3 x931 (fun x1000 w =>
 buildW [(Value.int .i64 0), (Value.int .i64 0), (Value.int .u64 0), (Value.int .u64 0), (Value.int .u64 0), (Value.bool false), (Value.int .i64 0), (Value.int .u64 0), (Value.bool false), (Value.int .i64 0)] [(0, 1, (Value.int .i64 4)), (1, 1, x998), (4, 3, x999), (7, 3, x1000)] (fun x1001 w =>
 CP Try.prog Fn.ref1_Mem_Do [a1, x1001] (fun x1002 w =>
 newW #[(Value.int .u64 0), (Value.int .u64 0), (Value.bool false), (Value.int .i64 0), (Value.bool false), (Value.int .i64 0)] (fun x1003 w =>
 storeW 6 x1003 x1002 (fun _ w =>
 addW 4 x1003 (fun x1005 w =>
 load1W x1005 (fun x1006 w =>
 binBoolW .neq x995 x1006 (fun x1007 w =>
 gW x1007 false (fun K w => K x996 w) (fun x1008 w =>
 gW x1007 false (fun K w => addW 5 x1003 K w) (fun x1009 w =>
 gW x1007 false (fun K w => load1W x1009 K w) (fun x1010 w =>
 gW x1007 false (fun K w => binIntW .neq x1008 x1010 K w) (fun x1011 w =>
 pickW x1007 (Value.bool true) x1011 (fun x1012 w =>
 condP x1012 (fun w => K (Value.bool false) w) (fun w => j33  w) w) w) w) w) w) w) w) w) w) w) w) w) w) w) w) w) w) w) w) w) w) w) w) w) (fun j34 w =>
 condP x989 (fun w => drewW (fun w => nilW a1 (fun x1013 w =>
 addW 6 x1013 (fun x1014 w =>
 load1W x1014 (fun x1015 w =>
 addW 1 x10 (fun x1016 w =>
 load1W x1016 (fun x1017 w =>
 idxW 3 x1015 x1017 (fun x1018 w =>
 loadNW 3 x1018 (fun x1019 w =>
 storeW 3 x839 x1019 (fun _ w =>
 andP (fun w => andP (fun w => trueP w) (fun w => andP (fun w => trueP w) (fun w => andP (fun w => trueP w) (fun w => trueP w) w) w) w) (fun w =>
 j34  w) w) w) w) w) w) w) w) w) w) w) (fun w => j34  w) w) w) w) w) w) w) w) w) w) w) w) w) w) w) w) w) w) w) w) w) w) w) w) w) w) w) w) w) w) w) w) w) w) w) w) w) w) w) w) w) (fun w => newW #[(Value.int .u64 0), (Value.bool false), (Value.int .i64 0)] (fun x1021 w =>
 andP (fun w => andP (fun w => load1W x19 (fun v w => eqP v x20 w) w) (fun w => andP (fun w => loadNW 3 x17 (fun v w => eqP v x18 w) w) (fun w => andP (fun w => load1W x14 (fun v w => eqP v x15 w) w) (fun w => andP (fun w => loadNW 3 x12 (fun v w => eqP v x13 w) w) (fun w => trueP w) w) w) w) w) (fun w =>
 CP Try.prog Fn.law3_lockOf [x13, x16] (fun x1022 w =>
 andP (fun w => andP (fun w => load1W x19 (fun v w => eqP v x20 w) w) (fun w => andP (fun w => loadNW 3 x17 (fun v w => eqP v x18 w) w) (fun w => andP (fun w => trueP w) (fun w => andP (fun w => trueP w) (fun w => trueP w) w) w) w) w) (fun w =>
 CP Try.prog Fn.law3_lockOf [x18, x21] (fun x1023 w =>
 andP (fun w => andP (fun w => trueP w) (fun w => andP (fun w => trueP w) (fun w => trueP w) w) w) (fun w =>
 storeW 3 x1021 x1022 (fun _ w =>
 andP (fun w => trueP w) (fun w =>
 storeW 3 x839 x1023 (fun _ w =>
 andP (fun w => trueP w) (fun w =>
 addW 0 x10 (fun x1026 w =>
 load1W x1026 (fun x1027 w =>
 binIntW .and x1027 (Value.int .i64 3) (fun x1028 w =>
 binIntW .eql x1028 (Value.int .i64 0) (fun x1029 w =>
 joinW0 (fun  w =>
 j1  w) (fun j35 w =>
 condP x1029 (fun w => addW 1 x10 (fun x1030 w =>
 load1W x1030 (fun x1031 w =>
 CP Try.prog Fn.stripe_Table_Load [a0, x1031] (fun x1032 w =>
 extractW 0 x1032 (fun x1033 w =>
 extractW 1 x1032 (fun x1034 w =>
 newW #[(Value.int .u64 0), (Value.bool false), (Value.int .i64 0)] (fun x1035 w =>
 storeW 3 x1035 x1033 (fun _ w =>
 addW 1 x10 (fun x1037 w =>
 load1W x1037 (fun x1038 w =>
 buildW [(Value.int .i64 0), (Value.int .i64 0), (Value.int .u64 0), (Value.int .u64 0), (Value.int .u64 0), (Value.bool false), (Value.int .i64 0), (Value.int .u64 0), (Value.bool false), (Value.int .i64 0)] [(0, 1, (Value.int .i64 3)), (1, 1, x1038)] (fun x1039 w =>
 CP Try.prog Fn.ref1_Mem_Do [a1, x1039] (fun x1040 w =>
 newW #[(Value.int .u64 0), (Value.int .u64 0), (Value.bool false), (Value.int .i64 0), (Value.bool false), (Value.int .i64 0)] (fun x1041 w =>
 storeW 6 x1041 x1040 (fun _ w =>
 loadNW 3 x1035 (fun x1043 w =>
 addW 1 x1041 (fun x1044 w =>
 loadNW 3 x1044 (fun x1045 w =>
 eqAggW [.i .u64, .b, .i .i64] .neq x1043 x1045 (fun x1046 w =>
 gW x1046 false (fun K w => K x1034 w) (fun x1047 w =>
 gW x1046 false (fun K w => addW 5 x1041 K w) (fun x1048 w =>
 gW x1046 false (fun K w => load1W x1048 K w) (fun x1049 w =>
 gW x1046 false (fun K w => binIntW .neq x1047 x1049 K w) (fun x1050 w =>
 pickW x1046 (Value.bool true) x1050 (fun x1051 w =>
 condP x1051 (fun w => K (Value.bool false) w) (fun w => j35  w) w) w) w) w) w) w) w) w) w) w) w) w) w) w) w) w) w) w) w) w) w) w) w) (fun w => binIntW .eql x1028 (Value.int .i64 1) (fun x1052 w =>
 joinW0 (fun  w =>
 j35  w) (fun j36 w =>
 condP x1052 (fun w => drewW (fun w => addW 1 x10 (fun x1053 w =>
 load1W x1053 (fun x1054 w =>
 loadNW 3 x1021 (fun x1055 w =>
 addW 1 x10 (fun x1056 w =>
 load1W x1056 (fun x1057 w =>
 loadNW 3 x1021 (fun x1058 w =>
 buildW [(Value.int .i64 0), (Value.int .i64 0), (Value.int .u64 0), (Value.int .u64 0), (Value.int .u64 0), (Value.bool false), (Value.int .i64 0), (Value.int .u64 0), (Value.bool false), (Value.int .i64 0)] [(0, 1, (Value.int .i64 5)), (1, 1, x1057), (7, 3, x1058)] (fun x1059 w =>
 CP Try.prog Fn.stripe_Table_Store [a0, x1054, x1055] (fun x1060 w =>
 andP (fun w => andP (fun w => loadNW 3 x1021 (fun v w => eqP v x1058 w) w) (fun w => andP (fun w => load1W x1056 (fun v w => eqP v x1057 w) w) (fun w => andP (fun w => trueP w) (fun w => andP (fun w => trueP w) (fun w => trueP w) w) w) w) w) (fun w =>
 CP Try.prog Fn.ref1_Mem_Do [a1, x1059] (fun x1061 w =>
 andP (fun w => andP (fun w => trueP w) (fun w => andP (fun w => trueP w) (fun w => trueP w) w) w) (fun w =>
 partW false 5 1 x1061 (fun x1062 w =>
 binIntW .neq x1060 x1062 (fun x1063 w =>
 condP x1063 (fun w => K (Value.bool false) w) (fun w => j36  w) w) w) w) w) w) w) w) w) w) w) w) w) w) w) w) (fun w => drewW (fun w => addW 0 x10 (fun x1064 w =>
 load1W x1064 (fun x1065 w =>
 binIntW .and x1065 (Value.int .i64 3) (fun x1066 w =>
 binIntW .eql x1066 (Value.int .i64 3) (fun x1067 w =>
 gW x1067 true (fun K w => addW 1 x10 K w) (fun x1068 w =>
 gW x1067 true (fun K w => load1W x1068 K w) (fun x1069 w =>
 gW x1067 true (fun K w => binIntW .geq x1069 (Value.int .i64 0) K w) (fun x1070 w =>
 pickW x1067 x1070 (Value.bool false) (fun x1071 w =>
 gW x1071 true (fun K w => addW 1 x10 K w) (fun x1072 w =>
 gW x1071 true (fun K w => load1W x1072 K w) (fun x1073 w =>
 gW x1071 true (fun K w => K a1 w) (fun x1074 w =>
 gW x1071 true (fun K w => nilW x1074 K w) (fun x1075 w =>
 gW x1071 true (fun K w => addW 6 x1075 K w) (fun x1076 w =>
 gW x1071 true (fun K w => load1W x1076 K w) (fun x1077 w =>
 gW x1071 true (fun K w => lenW x1077 K w) (fun x1078 w =>
 gW x1071 true (fun K w => binIntW .lss x1073 x1078 K w) (fun x1079 w =>
 pickW x1071 x1079 (Value.bool false) (fun x1080 w =>
 joinW0 (fun  w =>
 addW 1 x10 (fun x1081 w =>
 load1W x1081 (fun x1082 w =>
 loadNW 3 x839 (fun x1083 w =>
 loadNW 3 x1021 (fun x1084 w =>
 CP Try.prog Fn.stripe_Table_Cas [a0, x1082, x1083, x1084] (fun x1085 w =>
 extractW 0 x1085 (fun x1086 w =>
 extractW 1 x1085 (fun x1087 w =>
 addW 1 x10 (fun x1088 w =>
 load1W x1088 (fun x1089 w =>
 loadNW 3 x839 (fun x1090 w =>
 loadNW 3 x1021 (fun x1091 w =>
 buildW [(Value.int .i64 0), (Value.int .i64 0), (Value.int .u64 0), (Value.int .u64 0), (Value.int .u64 0), (Value.bool false), (Value.int .i64 0), (Value.int .u64 0), (Value.bool false), (Value.int .i64 0)] [(0, 1, (Value.int .i64 4)), (1, 1, x1089), (4, 3, x1090), (7, 3, x1091)] (fun x1092 w =>
 CP Try.prog Fn.ref1_Mem_Do [a1, x1092] (fun x1093 w =>
 newW #[(Value.int .u64 0), (Value.int .u64 0), (Value.bool false), (Value.int .i64 0), (Value.bool false), (Value.int .i64 0)] (fun x1094 w =>
 storeW 6 x1094 x1093 (fun _ w =>
 addW 4 x1094 (fun x1096 w =>
 load1W x1096 (fun x1097 w =>
 binBoolW .neq x1086 x1097 (fun x1098 w =>
 gW x1098 false (fun K w => K x1087 w) (fun x1099 w =>
 gW x1098 false (fun K w => addW 5 x1094 K w) (fun x1100 w =>
 gW x1098 false (fun K w => load1W x1100 K w) (fun x1101 w =>
 gW x1098 false (fun K w => binIntW .neq x1099 x1101 K w) (fun x1102 w =>
 pickW x1098 (Value.bool true) x1102 (fun x1103 w =>
 condP x1103 (fun w => K (Value.bool false) w) (fun w => j36  w) w) w) w) w) w) w) w) w) w) w) w) w) w) w) w) w) w) w) w) w) w) w) w) w) (fun j37 w =>
 condP x1080 (fun w => drewW (fun w => nilW a1 (fun x1104 w =>
 addW 6 x1104 (fun x1105 w =>
 load1W x1105 (fun x1106 w =>
 addW 1 x10 (fun x1107 w =>
 load1W x1107 (fun x1108 w =>
 idxW 3 x1106 x1108 (fun x1109 w =>
 loadNW 3 x1109 (fun x1110 w =>
 storeW 3 x839 x1110 (fun _ w =>
 andP (fun w => andP (fun w => trueP w) (fun w => andP (fun w => trueP w) (fun w => andP (fun w => trueP w) (fun w => trueP w) w) w) w) (fun w =>
 j37  w) w) w) w) w) w) w) w) w) w) w) (fun w => j37  w) w) w) w) w) w) w) w) w) w) w) w) w) w) w) w) w) w) w) w) w) w) w) w) w) w) w) w) w) w) w) w) w) w) w) w) w) w) w) w) w) w) w) w) w) w) w) w) w) w) w) w) w) w) w) w) w) w) w) w) w) (fun w => CP Try.prog Fn.law3_same [a0, a1] (fun x1112 w =>
 K x1112 w) w) w) w) w) w) w) w) w

/-- ref1_NewMem -/
def S_ref1_NewMem (a0 : Value) (K : KV) : World → Prop := fun w =>
 boxW a0 (fun x1 w =>
 loadNW 5 x1 (fun x2 w =>
 CP Try.prog Fn.ref1_Shape [x2] (fun x3 w =>
 newW #[(Value.int .i64 0), (Value.int .i64 0), (Value.int .i64 0), (Value.int .i64 0), (Value.int .u64 0)] (fun x4 w =>
 storeW 5 x4 x3 (fun _ w =>
 drewW (fun w => loadNW 5 x4 (fun x6 w =>
 addW 0 x4 (fun x7 w =>
 load1W x7 (fun x8 w =>
 addW 1 x4 (fun x9 w =>
 load1W x9 (fun x10 w =>
 addW 4 x4 (fun x11 w =>
 load1W x11 (fun x12 w =>
 addW 3 x4 (fun x13 w =>
 load1W x13 (fun x14 w =>
 andP (fun w => makeSliceW 8 [(Value.int .u64 0)] x8 x8 (fun x15 w =>
 andP (fun w => andP (fun w => load1W x13 (fun v w => eqP v x14 w) w) (fun w => andP (fun w => load1W x11 (fun v w => eqP v x12 w) w) (fun w => andP (fun w => load1W x9 (fun v w => eqP v x10 w) w) (fun w => andP (fun w => trueP w) (fun w => andP (fun w => loadNW 5 x4 (fun v w => eqP v x6 w) w) (fun w => trueP w) w) w) w) w) w) (fun w =>
 andP (fun w => makeSliceW 24 [(Value.int .u64 0), (Value.bool false), (Value.int .i64 0)] x10 x10 (fun x16 w =>
 andP (fun w => andP (fun w => load1W x13 (fun v w => eqP v x14 w) w) (fun w => andP (fun w => load1W x11 (fun v w => eqP v x12 w) w) (fun w => andP (fun w => trueP w) (fun w => andP (fun w => loadNW 5 x4 (fun v w => eqP v x6 w) w) (fun w => trueP w) w) w) w) w) (fun w =>
 makeSliceW 8 [(Value.int .u64 0)] x14 x14 (fun x17 w =>
 andP (fun w => andP (fun w => trueP w) (fun w => andP (fun w => load1W x11 (fun v w => eqP v x12 w) w) (fun w => andP (fun w => loadNW 5 x4 (fun v w => eqP v x6 w) w) (fun w => trueP w) w) w) w) (fun w =>
 buildW [(Value.int .i64 0), (Value.int .i64 0), (Value.int .i64 0), (Value.int .i64 0), (Value.int .u64 0), (Value.slice none 0 0), (Value.slice none 0 0), (Value.int .u64 0), (Value.slice none 0 0), (Value.int .i64 0)] [(0, 5, x6), (5, 1, x15), (6, 1, x16), (7, 1, x12), (8, 1, x17)] (fun x18 w =>
 boxW x18 (fun x19 w =>
 andP (fun w => andP (fun w => trueP w) (fun w => andP (fun w => trueP w) (fun w => trueP w) w) w) (fun w =>
 K x19 w) w) w) w) w) w) w) w) (fun w => makeSliceW 8 [(Value.int .u64 0)] x14 x14 (fun x20 w =>
 andP (fun w => andP (fun w => trueP w) (fun w => andP (fun w => load1W x11 (fun v w => eqP v x12 w) w) (fun w => andP (fun w => load1W x9 (fun v w => eqP v x10 w) w) (fun w => andP (fun w => loadNW 5 x4 (fun v w => eqP v x6 w) w) (fun w => trueP w) w) w) w) w) (fun w =>
 makeSliceW 24 [(Value.int .u64 0), (Value.bool false), (Value.int .i64 0)] x10 x10 (fun x21 w =>
 andP (fun w => andP (fun w => load1W x11 (fun v w => eqP v x12 w) w) (fun w => andP (fun w => trueP w) (fun w => andP (fun w => loadNW 5 x4 (fun v w => eqP v x6 w) w) (fun w => trueP w) w) w) w) (fun w =>
 buildW [(Value.int .i64 0), (Value.int .i64 0), (Value.int .i64 0), (Value.int .i64 0), (Value.int .u64 0), (Value.slice none 0 0), (Value.slice none 0 0), (Value.int .u64 0), (Value.slice none 0 0), (Value.int .i64 0)] [(0, 5, x6), (5, 1, x15), (6, 1, x21), (7, 1, x12), (8, 1, x20)] (fun x22 w =>
 boxW x22 (fun x23 w =>
 andP (fun w => andP (fun w => trueP w) (fun w => andP (fun w => trueP w) (fun w => trueP w) w) w) (fun w =>
 K x23 w) w) w) w) w) w) w) w) w) w) w) (fun w => andP (fun w => makeSliceW 24 [(Value.int .u64 0), (Value.bool false), (Value.int .i64 0)] x10 x10 (fun x24 w =>
 andP (fun w => andP (fun w => load1W x13 (fun v w => eqP v x14 w) w) (fun w => andP (fun w => load1W x11 (fun v w => eqP v x12 w) w) (fun w => andP (fun w => trueP w) (fun w => andP (fun w => load1W x7 (fun v w => eqP v x8 w) w) (fun w => andP (fun w => loadNW 5 x4 (fun v w => eqP v x6 w) w) (fun w => trueP w) w) w) w) w) w) (fun w =>
 andP (fun w => makeSliceW 8 [(Value.int .u64 0)] x8 x8 (fun x25 w =>
 andP (fun w => andP (fun w => load1W x13 (fun v w => eqP v x14 w) w) (fun w => andP (fun w => load1W x11 (fun v w => eqP v x12 w) w) (fun w => andP (fun w => trueP w) (fun w => andP (fun w => loadNW 5 x4 (fun v w => eqP v x6 w) w) (fun w => trueP w) w) w) w) w) (fun w =>
 makeSliceW 8 [(Value.int .u64 0)] x14 x14 (fun x26 w =>
 andP (fun w => andP (fun w => trueP w) (fun w => andP (fun w => load1W x11 (fun v w => eqP v x12 w) w) (fun w => andP (fun w => loadNW 5 x4 (fun v w => eqP v x6 w) w) (fun w => trueP w) w) w) w) (fun w =>
 buildW [(Value.int .i64 0), (Value.int .i64 0), (Value.int .i64 0), (Value.int .i64 0), (Value.int .u64 0), (Value.slice none 0 0), (Value.slice none 0 0), (Value.int .u64 0), (Value.slice none 0 0), (Value.int .i64 0)] [(0, 5, x6), (5, 1, x25), (6, 1, x24), (7, 1, x12), (8, 1, x26)] (fun x27 w =>
 boxW x27 (fun x28 w =>
 andP (fun w => andP (fun w => trueP w) (fun w => andP (fun w => trueP w) (fun w => trueP w) w) w) (fun w =>
 K x28 w) w) w) w) w) w) w) w) (fun w => makeSliceW 8 [(Value.int .u64 0)] x14 x14 (fun x29 w =>
 andP (fun w => andP (fun w => trueP w) (fun w => andP (fun w => load1W x11 (fun v w => eqP v x12 w) w) (fun w => andP (fun w => load1W x7 (fun v w => eqP v x8 w) w) (fun w => andP (fun w => loadNW 5 x4 (fun v w => eqP v x6 w) w) (fun w => trueP w) w) w) w) w) (fun w =>
 makeSliceW 8 [(Value.int .u64 0)] x8 x8 (fun x30 w =>
 andP (fun w => andP (fun w => load1W x11 (fun v w => eqP v x12 w) w) (fun w => andP (fun w => trueP w) (fun w => andP (fun w => loadNW 5 x4 (fun v w => eqP v x6 w) w) (fun w => trueP w) w) w) w) (fun w =>
 buildW [(Value.int .i64 0), (Value.int .i64 0), (Value.int .i64 0), (Value.int .i64 0), (Value.int .u64 0), (Value.slice none 0 0), (Value.slice none 0 0), (Value.int .u64 0), (Value.slice none 0 0), (Value.int .i64 0)] [(0, 5, x6), (5, 1, x30), (6, 1, x24), (7, 1, x12), (8, 1, x29)] (fun x31 w =>
 boxW x31 (fun x32 w =>
 andP (fun w => andP (fun w => trueP w) (fun w => andP (fun w => trueP w) (fun w => trueP w) w) w) (fun w =>
 K x32 w) w) w) w) w) w) w) w) w) w) w) (fun w => makeSliceW 8 [(Value.int .u64 0)] x14 x14 (fun x33 w =>
 andP (fun w => andP (fun w => trueP w) (fun w => andP (fun w => load1W x11 (fun v w => eqP v x12 w) w) (fun w => andP (fun w => load1W x9 (fun v w => eqP v x10 w) w) (fun w => andP (fun w => load1W x7 (fun v w => eqP v x8 w) w) (fun w => andP (fun w => loadNW 5 x4 (fun v w => eqP v x6 w) w) (fun w => trueP w) w) w) w) w) w) (fun w =>
 andP (fun w => makeSliceW 8 [(Value.int .u64 0)] x8 x8 (fun x34 w =>
 andP (fun w => andP (fun w => load1W x11 (fun v w => eqP v x12 w) w) (fun w => andP (fun w => load1W x9 (fun v w => eqP v x10 w) w) (fun w => andP (fun w => trueP w) (fun w => andP (fun w => loadNW 5 x4 (fun v w => eqP v x6 w) w) (fun w => trueP w) w) w) w) w) (fun w =>
 makeSliceW 24 [(Value.int .u64 0), (Value.bool false), (Value.int .i64 0)] x10 x10 (fun x35 w =>
 andP (fun w => andP (fun w => load1W x11 (fun v w => eqP v x12 w) w) (fun w => andP (fun w => trueP w) (fun w => andP (fun w => loadNW 5 x4 (fun v w => eqP v x6 w) w) (fun w => trueP w) w) w) w) (fun w =>
 buildW [(Value.int .i64 0), (Value.int .i64 0), (Value.int .i64 0), (Value.int .i64 0), (Value.int .u64 0), (Value.slice none 0 0), (Value.slice none 0 0), (Value.int .u64 0), (Value.slice none 0 0), (Value.int .i64 0)] [(0, 5, x6), (5, 1, x34), (6, 1, x35), (7, 1, x12), (8, 1, x33)] (fun x36 w =>
 boxW x36 (fun x37 w =>
 andP (fun w => andP (fun w => trueP w) (fun w => andP (fun w => trueP w) (fun w => trueP w) w) w) (fun w =>
 K x37 w) w) w) w) w) w) w) w) (fun w => makeSliceW 24 [(Value.int .u64 0), (Value.bool false), (Value.int .i64 0)] x10 x10 (fun x38 w =>
 andP (fun w => andP (fun w => load1W x11 (fun v w => eqP v x12 w) w) (fun w => andP (fun w => trueP w) (fun w => andP (fun w => load1W x7 (fun v w => eqP v x8 w) w) (fun w => andP (fun w => loadNW 5 x4 (fun v w => eqP v x6 w) w) (fun w => trueP w) w) w) w) w) (fun w =>
 makeSliceW 8 [(Value.int .u64 0)] x8 x8 (fun x39 w =>
 andP (fun w => andP (fun w => load1W x11 (fun v w => eqP v x12 w) w) (fun w => andP (fun w => trueP w) (fun w => andP (fun w => loadNW 5 x4 (fun v w => eqP v x6 w) w) (fun w => trueP w) w) w) w) (fun w =>
 buildW [(Value.int .i64 0), (Value.int .i64 0), (Value.int .i64 0), (Value.int .i64 0), (Value.int .u64 0), (Value.slice none 0 0), (Value.slice none 0 0), (Value.int .u64 0), (Value.slice none 0 0), (Value.int .i64 0)] [(0, 5, x6), (5, 1, x39), (6, 1, x38), (7, 1, x12), (8, 1, x33)] (fun x40 w =>
 boxW x40 (fun x41 w =>
 andP (fun w => andP (fun w => trueP w) (fun w => andP (fun w => trueP w) (fun w => trueP w) w) w) (fun w =>
 K x41 w) w) w) w) w) w) w) w) w) w) w) w) w) w) w) w) w) w) w) w) w) w) w) w) w) w) w) w

/-- ref1_Mem_Copy -/
def S_ref1_Mem_Copy (a0 : Value) (K : KV) : World → Prop := fun w =>
 drewW (fun w => nilW a0 (fun x1 w =>
 addW 0 x1 (fun x2 w =>
 loadNW 5 x2 (fun x3 w =>
 nilW a0 (fun x4 w =>
 addW 5 x4 (fun x5 w =>
 load1W x5 (fun x6 w =>
 nilW a0 (fun x7 w =>
 addW 6 x7 (fun x8 w =>
 load1W x8 (fun x9 w =>
 nilW a0 (fun x10 w =>
 addW 7 x10 (fun x11 w =>
 load1W x11 (fun x12 w =>
 nilW a0 (fun x13 w =>
 addW 8 x13 (fun x14 w =>
 load1W x14 (fun x15 w =>
 nilW a0 (fun x16 w =>
 addW 9 x16 (fun x17 w =>
 load1W x17 (fun x18 w =>
 appendW 1 8 (Value.slice none 0 0) x6 (fun x19 w =>
 andP (fun w => andP (fun w => load1W x17 (fun v w => eqP v x18 w) w) (fun w => andP (fun w => load1W x14 (fun v w => eqP v x15 w) w) (fun w => andP (fun w => load1W x11 (fun v w => eqP v x12 w) w) (fun w => andP (fun w => load1W x8 (fun v w => eqP v x9 w) w) (fun w => andP (fun w => trueP w) (fun w => andP (fun w => loadNW 5 x2 (fun v w => eqP v x3 w) w) (fun w => trueP w) w) w) w) w) w) w) (fun w =>
 appendW 3 24 (Value.slice none 0 0) x9 (fun x20 w =>
 andP (fun w => andP (fun w => load1W x17 (fun v w => eqP v x18 w) w) (fun w => andP (fun w => load1W x14 (fun v w => eqP v x15 w) w) (fun w => andP (fun w => load1W x11 (fun v w => eqP v x12 w) w) (fun w => andP (fun w => trueP w) (fun w => andP (fun w => loadNW 5 x2 (fun v w => eqP v x3 w) w) (fun w => trueP w) w) w) w) w) w) (fun w =>
 appendW 1 8 (Value.slice none 0 0) x15 (fun x21 w =>
 andP (fun w => andP (fun w => load1W x17 (fun v w => eqP v x18 w) w) (fun w => andP (fun w => trueP w) (fun w => andP (fun w => load1W x11 (fun v w => eqP v x12 w) w) (fun w => andP (fun w => loadNW 5 x2 (fun v w => eqP v x3 w) w) (fun w => trueP w) w) w) w) w) (fun w =>
 buildW [(Value.int .i64 0), (Value.int .i64 0), (Value.int .i64 0), (Value.int .i64 0), (Value.int .u64 0), (Value.slice none 0 0), (Value.slice none 0 0), (Value.int .u64 0), (Value.slice none 0 0), (Value.int .i64 0)] [(0, 5, x3), (5, 1, x19), (6, 1, x20), (7, 1, x12), (8, 1, x21), (9, 1, x18)] (fun x22 w =>
 boxW x22 (fun x23 w =>
 andP (fun w => andP (fun w => trueP w) (fun w => andP (fun w => trueP w) (fun w => andP (fun w => trueP w) (fun w => trueP w) w) w) w) (fun w =>
 K x23 w) w) w) w) w) w) w) w) w) w) w) w) w) w) w) w) w) w) w) w) w) w) w) w) w) w) w) w) w

/-- law3_same -/
def S_law3_same (a0 a1 : Value) (K : KV) : World → Prop := fun w =>
 CP Try.prog Fn.stripe_Table_All [a0] (fun x1 w =>
 drewW (fun w => lenW x1 (fun x2 w =>
 nilW a1 (fun x3 w =>
 addW 6 x3 (fun x4 w =>
 load1W x4 (fun x5 w =>
 lenW x5 (fun x6 w =>
 binIntW .neq x2 x6 (fun x7 w =>
 gW x7 false (fun K w => K a0 w) (fun x8 w =>
 gW x7 false (fun K w => K a1 w) (fun x9 w =>
 gW x7 false (fun K w => nilW x9 K w) (fun x10 w =>
 gW x7 false (fun K w => addW 6 x10 K w) (fun x11 w =>
 gW x7 false (fun K w => load1W x11 K w) (fun x12 w =>
 gW x7 false (fun K w => lenW x12 K w) (fun x13 w =>
 gW x7 false (fun K w => CP Try.prog Fn.stripe_Table_Len [x8] K w) (fun x14 w =>
 andP (fun w => andP (fun w => gW x7 false (fun K w => load1W x11 K w) (fun v w => eqP v x12 w) w) (fun w => andP (fun w => trueP w) (fun w => trueP w) w) w) (fun w =>
 gW x7 false (fun K w => binIntW .neq x14 x13 K w) (fun x15 w =>
 pickW x7 (Value.bool true) x15 (fun x16 w =>
 condP x16 (fun w => K (Value.bool false) w) (fun w => loopW1 (Value.int .i64 0) (fun J1 x17 w =>
 lenW x1 (fun x18 w =>
 binIntW .lss x17 x18 (fun x19 w =>
 condP x19 (fun w => drewW (fun w => idxW 3 x1 x17 (fun x20 w =>
 loadNW 3 x20 (fun x21 w =>
 nilW a1 (fun x22 w =>
 addW 6 x22 (fun x23 w =>
 load1W x23 (fun x24 w =>
 idxW 3 x24 x17 (fun x25 w =>
 loadNW 3 x25 (fun x26 w =>
 eqAggW [.i .u64, .b, .i .i64] .neq x21 x26 (fun x27 w =>
 condP x27 (fun w => K (Value.bool false) w) (fun w => binIntW .add x17 (Value.int .i64 1) (fun x28 w =>
 J1 x28 w) w) w) w) w) w) w) w) w) w) w) w) (fun w => loopW1 (Value.int .i64 (-1)) (fun J2 x29 w =>
 binIntW .leq x29 (Value.int .i64 4) (fun x30 w =>
 condP x30 (fun w => loopW2 (Value.slice none 0 0) (Value.int .i64 0) (fun J3 x31 x32 w =>
 lenW x1 (fun x33 w =>
 binIntW .lss x32 x33 (fun x34 w =>
 condP x34 (fun w => idxW 3 x1 x32 (fun x35 w =>
 addW 1 x35 (fun x36 w =>
 load1W x36 (fun x37 w =>
 gW x37 true (fun K w => K x1 w) (fun x38 w =>
 gW x37 true (fun K w => K x32 w) (fun x39 w =>
 gW x37 true (fun K w => idxW 3 x38 x39 K w) (fun x40 w =>
 gW x37 true (fun K w => addW 2 x40 K w) (fun x41 w =>
 gW x37 true (fun K w => load1W x41 K w) (fun x42 w =>
 gW x37 true (fun K w => K x29 w) (fun x43 w =>
 gW x37 true (fun K w => binIntW .eql x42 x43 K w) (fun x44 w =>
 pickW x37 x44 (Value.bool false) (fun x45 w =>
 joinW1 (fun x46 w =>
 binIntW .add x32 (Value.int .i64 1) (fun x47 w =>
 J3 x46 x47 w) w) (fun j1 w =>
 condP x45 (fun w => buildSliceW [(Value.int .i64 0)] 1 [(0, 1, x32)] (fun x48 w =>
 appendW 1 8 x31 x48 (fun x49 w =>
 j1 x49 w) w) w) (fun w => j1 x31 w) w) w) w) w) w) w) w) w) w) w) w) w) w) (fun w => CP Try.prog Fn.stripe_Table_Held [a0, x29] (fun x50 w =>
 lenW x50 (fun x51 w =>
 lenW x31 (fun x52 w =>
 binIntW .neq x51 x52 (fun x53 w =>
 condP x53 (fun w => K (Value.bool false) w) (fun w => loopW1 (Value.int .i64 0) (fun J4 x54 w =>
 lenW x50 (fun x55 w =>
 binIntW .lss x54 x55 (fun x56 w =>
 condP x56 (fun w => drewW (fun w => idxW 1 x50 x54 (fun x57 w =>
 load1W x57 (fun x58 w =>
 idxW 1 x31 x54 (fun x59 w =>
 load1W x59 (fun x60 w =>
 binIntW .neq x58 x60 (fun x61 w =>
 condP x61 (fun w => K (Value.bool false) w) (fun w => binIntW .add x54 (Value.int .i64 1) (fun x62 w =>
 J4 x62 w) w) w) w) w) w) w) w) w) (fun w => binIntW .add x29 (Value.int .i64 1) (fun x63 w =>
 J2 x63 w) w) w) w) w) w) w) w) w) w) w) w) w) w) w) (fun w => K (Value.bool true) w) w) w) w) w) w) w) w) w) w) w) w) w) w) w) w) w) w) w) w) w) w) w) w) w) w) w

/-- mem_New -/
def S_mem_New (a0 : Value) (K : KV) : World → Prop := fun w =>
 boxW a0 (fun x1 w =>
 loadNW 5 x1 (fun x2 w =>
 CP Try.prog Fn.mem_Held [x2] (fun x3 w =>
 storeW 5 x1 x3 (fun _ w =>
 drewW (fun w => loadNW 5 x1 (fun x5 w =>
 addW 0 x1 (fun x6 w =>
 load1W x6 (fun x7 w =>
 addW 1 x1 (fun x8 w =>
 load1W x8 (fun x9 w =>
 addW 2 x1 (fun x10 w =>
 load1W x10 (fun x11 w =>
 addW 4 x1 (fun x12 w =>
 load1W x12 (fun x13 w =>
 addW 3 x1 (fun x14 w =>
 load1W x14 (fun x15 w =>
 CP Try.prog Fn.heap_New [x7] (fun x16 w =>
 andP (fun w => andP (fun w => load1W x14 (fun v w => eqP v x15 w) w) (fun w => andP (fun w => load1W x12 (fun v w => eqP v x13 w) w) (fun w => andP (fun w => load1W x10 (fun v w => eqP v x11 w) w) (fun w => andP (fun w => load1W x8 (fun v w => eqP v x9 w) w) (fun w => andP (fun w => trueP w) (fun w => andP (fun w => loadNW 5 x1 (fun v w => eqP v x5 w) w) (fun w => trueP w) w) w) w) w) w) w) (fun w =>
 CP Try.prog Fn.stripe_New [x9, x11] (fun x17 w =>
 andP (fun w => andP (fun w => load1W x14 (fun v w => eqP v x15 w) w) (fun w => andP (fun w => load1W x12 (fun v w => eqP v x13 w) w) (fun w => andP (fun w => trueP w) (fun w => andP (fun w => trueP w) (fun w => andP (fun w => loadNW 5 x1 (fun v w => eqP v x5 w) w) (fun w => trueP w) w) w) w) w) w) (fun w =>
 CP Try.prog Fn.clock_New [x13] (fun x18 w =>
 andP (fun w => andP (fun w => load1W x14 (fun v w => eqP v x15 w) w) (fun w => andP (fun w => trueP w) (fun w => andP (fun w => loadNW 5 x1 (fun v w => eqP v x5 w) w) (fun w => trueP w) w) w) w) (fun w =>
 CP Try.prog Fn.epoch_New [x15] (fun x19 w =>
 andP (fun w => andP (fun w => trueP w) (fun w => andP (fun w => loadNW 5 x1 (fun v w => eqP v x5 w) w) (fun w => trueP w) w) w) (fun w =>
 buildW [(Value.int .i64 0), (Value.int .i64 0), (Value.int .i64 0), (Value.int .i64 0), (Value.int .u64 0), (Value.pointer none), (Value.pointer none), (Value.pointer none), (Value.pointer none), (Value.int .i64 0)] [(0, 5, x5), (5, 1, x16), (6, 1, x17), (7, 1, x18), (8, 1, x19)] (fun x20 w =>
 boxW x20 (fun x21 w =>
 andP (fun w => andP (fun w => trueP w) (fun w => trueP w) w) (fun w =>
 K x21 w) w) w) w) w) w) w) w) w) w) w) w) w) w) w) w) w) w) w) w) w) w) w) w) w) w) w) w

/-- mem_Mem_Do -/
def S_mem_Mem_Do (a0 a1 : Value) (K : KV) : World → Prop := fun w =>
 boxW a1 (fun x1 w =>
 newW #[(Value.int .u64 0), (Value.int .u64 0), (Value.bool false), (Value.int .i64 0), (Value.bool false), (Value.int .i64 0)] (fun x2 w =>
 loadNW 10 x1 (fun x3 w =>
 CP Try.prog Fn.mem_Mem_do [a0, x3] (fun x4 w =>
 newW #[(Value.int .u64 0), (Value.int .u64 0), (Value.bool false), (Value.int .i64 0), (Value.bool false), (Value.int .i64 0)] (fun x5 w =>
 storeW 6 x5 x4 (fun _ w =>
 addW 5 x5 (fun x7 w =>
 load1W x7 (fun x8 w =>
 binIntW .eql x8 (Value.int .i64 0) (fun x9 w =>
 joinW0 (fun  w =>
 loadNW 6 x5 (fun x10 w =>
 storeW 6 x2 x10 (fun _ w =>
 loadNW 6 x2 (fun x12 w =>
 K x12 w) w) w) w) (fun j1 w =>
 condP x9 (fun w => nilW a0 (fun x13 w =>
 addW 9 x13 (fun x14 w =>
 load1W x14 (fun x15 w =>
 binIntW .add x15 (Value.int .i64 1) (fun x16 w =>
 nilW a0 (fun x17 w =>
 addW 9 x17 (fun x18 w =>
 storeW 1 x18 x16 (fun _ w =>
 j1  w) w) w) w) w) w) w) w) (fun w => j1  w) w) w) w) w) w) w) w) w) w) w) w

/-- mem_Mem_Locks -/
def S_mem_Mem_Locks (a0 : Value) (K : KV) : World → Prop := fun w =>
 nilW a0 (fun x1 w =>
 addW 6 x1 (fun x2 w =>
 load1W x2 (fun x3 w =>
 CP Try.prog Fn.stripe_Table_All [x3] (fun x4 w =>
 K x4 w) w) w) w) w

/-- book_Same_api_Lock -/
def S_book_Same_api_Lock (a0 a1 : Value) (K : KV) : World → Prop := fun w =>
 lenW a0 (fun x1 w =>
 lenW a1 (fun x2 w =>
 binIntW .neq x1 x2 (fun x3 w =>
 condP x3 (fun w => K (Value.bool false) w) (fun w => loopW1 (Value.int .i64 0) (fun J1 x4 w =>
 lenW a0 (fun x5 w =>
 binIntW .lss x4 x5 (fun x6 w =>
 condP x6 (fun w => drewW (fun w => idxW 3 a0 x4 (fun x7 w =>
 loadNW 3 x7 (fun x8 w =>
 idxW 3 a1 x4 (fun x9 w =>
 loadNW 3 x9 (fun x10 w =>
 eqAggW [.i .u64, .b, .i .i64] .neq x8 x10 (fun x11 w =>
 condP x11 (fun w => K (Value.bool false) w) (fun w => binIntW .add x4 (Value.int .i64 1) (fun x12 w =>
 J1 x12 w) w) w) w) w) w) w) w) w) (fun w => K (Value.bool true) w) w) w) w) w) w) w) w) w

/-- mem_Mem_Now -/
def S_mem_Mem_Now (a0 : Value) (K : KV) : World → Prop := fun w =>
 nilW a0 (fun x1 w =>
 addW 7 x1 (fun x2 w =>
 load1W x2 (fun x3 w =>
 CP Try.prog Fn.clock_Clock_Load [x3] (fun x4 w =>
 K x4 w) w) w) w) w

/-- ref7_Stands -/
def S_ref7_Stands (a0 a1 : Value) (K : KV) : World → Prop := fun w =>
 loopW1 (Value.int .i64 0) (fun J1 x1 w =>
 lenW a0 (fun x2 w =>
 binIntW .lss x1 x2 (fun x3 w =>
 condP x3 (fun w => idxW 2 a0 x1 (fun x4 w =>
 addW 0 x4 (fun x5 w =>
 load1W x5 (fun x6 w =>
 drewW (fun w => binIntW .lss x6 (Value.int .i64 0) (fun x7 w =>
 gW x7 false (fun K w => K x6 w) (fun x8 w =>
 gW x7 false (fun K w => K a1 w) (fun x9 w =>
 gW x7 false (fun K w => lenW x9 K w) (fun x10 w =>
 gW x7 false (fun K w => binIntW .geq x8 x10 K w) (fun x11 w =>
 pickW x7 (Value.bool true) x11 (fun x12 w =>
 gW x12 false (fun K w => K a1 w) (fun x13 w =>
 gW x12 false (fun K w => K x6 w) (fun x14 w =>
 gW x12 false (fun K w => idxW 3 x13 x14 K w) (fun x15 w =>
 gW x12 false (fun K w => addW 1 x15 K w) (fun x16 w =>
 gW x12 false (fun K w => load1W x16 K w) (fun x17 w =>
 pickW x12 (Value.bool true) x17 (fun x18 w =>
 gW x18 false (fun K w => K a1 w) (fun x19 w =>
 gW x18 false (fun K w => K x6 w) (fun x20 w =>
 gW x18 false (fun K w => idxW 3 x19 x20 K w) (fun x21 w =>
 gW x18 false (fun K w => addW 0 x21 K w) (fun x22 w =>
 gW x18 false (fun K w => load1W x22 K w) (fun x23 w =>
 gW x18 false (fun K w => K a0 w) (fun x24 w =>
 gW x18 false (fun K w => K x1 w) (fun x25 w =>
 gW x18 false (fun K w => idxW 2 x24 x25 K w) (fun x26 w =>
 gW x18 false (fun K w => addW 1 x26 K w) (fun x27 w =>
 gW x18 false (fun K w => load1W x27 K w) (fun x28 w =>
 gW x18 false (fun K w => binIntW .neq x23 x28 K w) (fun x29 w =>
 pickW x18 (Value.bool true) x29 (fun x30 w =>
 condP x30 (fun w => K (Value.bool false) w) (fun w => binIntW .add x1 (Value.int .i64 1) (fun x31 w =>
 J1 x31 w) w) w) w) w) w) w) w) w) w) w) w) w) w) w) w) w) w) w) w) w) w) w) w) w) w) w) w) w) w) w) (fun w => K (Value.bool true) w) w) w) w) w

/-- stripe_near -/
def S_stripe_near (a0 a1 : Value) (K : KV) : World → Prop := fun w =>
 minW a0 [a1] (fun x1 w =>
 maxW (Value.int .i64 1) [x1] (fun x2 w =>
 K x2 w) w) w

/-- stripe_Table_may -/
def S_stripe_Table_may (a0 a1 a2 : Value) (K : KV) : World → Prop := fun w =>
 boxW a2 (fun x1 w =>
 CP Try.prog Fn.stripe_Table_is [a0, a1] (fun x2 w =>
 notW x2 (fun x3 w =>
 condP x3 (fun w => K (Value.int .i64 2) w) (fun w => loadNW 3 x1 (fun x4 w =>
 CP Try.prog Fn.lock_Is [x4] (fun x5 w =>
 notW x5 (fun x6 w =>
 condP x6 (fun w => K (Value.int .i64 1) w) (fun w => K (Value.int .i64 0) w) w) w) w) w) w) w) w) w

/-- stripe_Table_is -/
def S_stripe_Table_is (a0 a1 : Value) (K : KV) : World → Prop := fun w =>
 binIntW .geq a1 (Value.int .i64 0) (fun x1 w =>
 gW x1 true (fun K w => K a1 w) (fun x2 w =>
 gW x1 true (fun K w => K a0 w) (fun x3 w =>
 gW x1 true (fun K w => nilW x3 K w) (fun x4 w =>
 gW x1 true (fun K w => addW 0 x4 K w) (fun x5 w =>
 gW x1 true (fun K w => load1W x5 K w) (fun x6 w =>
 gW x1 true (fun K w => lenW x6 K w) (fun x7 w =>
 gW x1 true (fun K w => binIntW .lss x2 x7 K w) (fun x8 w =>
 pickW x1 x8 (Value.bool false) (fun x9 w =>
 K x9 w) w) w) w) w) w) w) w) w) w

/-- stripe_Table_All -/
def S_stripe_Table_All (a0 : Value) (K : KV) : World → Prop := fun w =>
 nilW a0 (fun x1 w =>
 addW 0 x1 (fun x2 w =>
 load1W x2 (fun x3 w =>
 CP Try.prog Fn.slices_Clone_api_Lock_api_Lock [x3] (fun x4 w =>
 K x4 w) w) w) w) w

/-- ref1_Held -/
def S_ref1_Held (a0 a1 a2 : Value) (K : KV) : World → Prop := fun w =>
 binIntW .lss a0 a1 (fun x1 w =>
 condP x1 (fun w => K a1 w) (fun w => binIntW .gtr a0 a2 (fun x2 w =>
 condP x2 (fun w => K a2 w) (fun w => K a0 w) w) w) w) w

/-- patience_New -/
def S_patience_New (a0 a1 : Value) (K : KV) : World → Prop := fun w =>
 newW #[(Value.int .i64 0), (Value.int .i64 0), (Value.int .i64 0), (Value.int .i64 0), (Value.int .i64 0)] (fun x1 w =>
 minW a1 [(Value.int .i64 4)] (fun x2 w =>
 maxW (Value.int .i64 0) [x2] (fun x3 w =>
 buildW [(Value.int .i64 0), (Value.int .i64 0), (Value.int .i64 0), (Value.int .i64 0), (Value.int .i64 0)] [(0, 1, a0), (1, 1, x3), (3, 1, (Value.int .i64 (-1)))] (fun x4 w =>
 storeW 5 x1 x4 (fun _ w =>
 loadNW 5 x1 (fun x6 w =>
 K x6 w) w) w) w) w) w) w

/-- slices_Clone_api_Seen_api_Seen -/
def S_slices_Clone_api_Seen_api_Seen (a0 : Value) (K : KV) : World → Prop := fun w =>
 eqNilSliceW .eql a0 (Value.slice none 0 0) (fun x1 w =>
 condP x1 (fun w => K (Value.slice none 0 0) w) (fun w => buildSliceW [(Value.int .i64 0), (Value.int .u64 0)] 0 [] (fun x2 w =>
 appendW 2 16 x2 a0 (fun x3 w =>
 K x3 w) w) w) w) w

/-- patience_Patience_End -/
def S_patience_Patience_End (a0 : Value) (K : KV) : World → Prop := fun w =>
 nilW a0 (fun x1 w =>
 addW 2 x1 (fun x2 w =>
 load1W x2 (fun x3 w =>
 K x3 w) w) w) w

/-- patience_Patience_Stopped -/
def S_patience_Patience_Stopped (a0 a1 : Value) (K : KV) : World → Prop := fun w =>
 boxW a1 (fun x1 w =>
 nilW a0 (fun x2 w =>
 addW 2 x2 (fun x3 w =>
 load1W x3 (fun x4 w =>
 binIntW .eql x4 (Value.int .i64 0) (fun x5 w =>
 gW x5 true (fun K w => addW 5 x1 K w) (fun x6 w =>
 gW x5 true (fun K w => load1W x6 K w) (fun x7 w =>
 gW x5 true (fun K w => binIntW .neq x7 (Value.int .i64 0) K w) (fun x8 w =>
 pickW x5 x8 (Value.bool false) (fun x9 w =>
 joinW0 (fun  w =>
 nilW a0 (fun x10 w =>
 addW 2 x10 (fun x11 w =>
 load1W x11 (fun x12 w =>
 binIntW .neq x12 (Value.int .i64 0) (fun x13 w =>
 K x13 w) w) w) w) w) (fun j1 w =>
 condP x9 (fun w => addW 5 x1 (fun x14 w =>
 load1W x14 (fun x15 w =>
 CP Try.prog Fn.patience_Patience_Stop [a0, (Value.int .i64 4), x15, (Value.int .i64 (-1))] (fun x16 w =>
 j1  w) w) w) w) (fun w => j1  w) w) w) w) w) w) w) w) w) w) w) w

/-- patience_Patience_Waits -/
def S_patience_Patience_Waits (a0 a1 : Value) (K : KV) : World → Prop := fun w =>
 boxW a1 (fun x1 w =>
 drewW (fun w => addW 2 x1 (fun x2 w =>
 load1W x2 (fun x3 w =>
 nilW a0 (fun x4 w =>
 addW 0 x4 (fun x5 w =>
 load1W x5 (fun x6 w =>
 binIntW .gtr x3 x6 (fun x7 w =>
 condP x7 (fun w => K (Value.bool true) w) (fun w => nilW a0 (fun x8 w =>
 addW 1 x8 (fun x9 w =>
 load1W x9 (fun x10 w =>
 binIntW .sub x10 (Value.int .i64 1) (fun x11 w =>
 nilW a0 (fun x12 w =>
 addW 1 x12 (fun x13 w =>
 storeW 1 x13 x11 (fun _ w =>
 nilW a0 (fun x15 w =>
 addW 1 x15 (fun x16 w =>
 load1W x16 (fun x17 w =>
 binIntW .geq x17 (Value.int .i64 0) (fun x18 w =>
 K x18 w) w) w) w) w) w) w) w) w) w) w) w) w) w) w) w) w) w) w) w) w

/-- patience_Patience_Stop -/
def S_patience_Patience_Stop (a0 a1 a2 a3 : Value) (K : KV) : World → Prop := fun w =>
 nilW a0 (fun x1 w =>
 addW 2 x1 (fun x2 w =>
 storeW 1 x2 a1 (fun _ w =>
 nilW a0 (fun x4 w =>
 addW 4 x4 (fun x5 w =>
 storeW 1 x5 a2 (fun _ w =>
 nilW a0 (fun x7 w =>
 addW 3 x7 (fun x8 w =>
 storeW 1 x8 a3 (fun _ w =>
 K (Value.tuple #[]) w) w) w) w) w) w) w) w) w) w

/-- patience_Patience_By -/
def S_patience_Patience_By (a0 : Value) (K : KV) : World → Prop := fun w =>
 nilW a0 (fun x1 w =>
 addW 3 x1 (fun x2 w =>
 load1W x2 (fun x3 w =>
 K x3 w) w) w) w

/-- fetch_Fetch_found -/
def S_fetch_Fetch_found (a0 a1 : Value) (K : KV) : World → Prop := fun w =>
 boxW a1 (fun x1 w =>
 nilW a0 (fun x2 w =>
 addW 8 x2 (fun x3 w =>
 storeW 1 x3 (Value.int .i64 0) (fun _ w =>
 addW 1 x1 (fun x5 w =>
 load1W x5 (fun x6 w =>
 joinW0 (fun  w =>
 K (Value.tuple #[]) w) (fun j1 w =>
 condP x6 (fun w => drewW (fun w => nilW a0 (fun x7 w =>
 addW 0 x7 (fun x8 w =>
 loadNW 3 x1 (fun x9 w =>
 CP Try.prog Fn.patience_Patience_Waits [x8, x9] (fun x10 w =>
 andP (fun w => andP (fun w => trueP w) (fun w => trueP w) w) (fun w =>
 notW x10 (fun x11 w =>
 joinW0 (fun  w =>
 j1  w) (fun j2 w =>
 condP x11 (fun w => drewW (fun w => nilW a0 (fun x12 w =>
 addW 0 x12 (fun x13 w =>
 addW 2 x1 (fun x14 w =>
 load1W x14 (fun x15 w =>
 CP Try.prog Fn.patience_Patience_Stop [x13, (Value.int .i64 5), (Value.int .i64 0), x15] (fun x16 w =>
 andP (fun w => andP (fun w => trueP w) (fun w => trueP w) w) (fun w =>
 j2  w) w) w) w) w) w) w) w) (fun w => j2  w) w) w) w) w) w) w) w) w) w) (fun w => drewW (fun w => addW 0 x1 (fun x17 w =>
 load1W x17 (fun x18 w =>
 nilW a0 (fun x19 w =>
 addW 7 x19 (fun x20 w =>
 load1W x20 (fun x21 w =>
 binIntW .gtr x18 x21 (fun x22 w =>
 joinW0 (fun  w =>
 j1  w) (fun j3 w =>
 condP x22 (fun w => nilW a0 (fun x23 w =>
 addW 0 x23 (fun x24 w =>
 CP Try.prog Fn.patience_Patience_Stop [x24, (Value.int .i64 6), (Value.int .i64 0), (Value.int .i64 (-1))] (fun x25 w =>
 j3  w) w) w) w) (fun w => loadNW 3 x1 (fun x26 w =>
 nilW a0 (fun x27 w =>
 addW 9 x27 (fun x28 w =>
 storeW 3 x28 x26 (fun _ w =>
 nilW a0 (fun x30 w =>
 addW 8 x30 (fun x31 w =>
 storeW 1 x31 (Value.int .i64 1) (fun _ w =>
 j3  w) w) w) w) w) w) w) w) w) w) w) w) w) w) w) w) w) w) w) w) w) w) w) w) w

/-- ref23_begin -/
def S_ref23_begin (a0 a1 : Value) (K : KV) : World → Prop := fun w =>
 newW #[(Value.int .i64 0), (Value.int .i64 0), (Value.int .i64 0), (Value.int .i64 0), (Value.int .i64 0)] (fun x1 w =>
 CP Try.prog Fn.ref1_Held [a1, (Value.int .i64 0), (Value.int .i64 4)] (fun x2 w =>
 buildW [(Value.int .i64 0), (Value.int .i64 0), (Value.int .i64 0), (Value.int .i64 0), (Value.int .i64 0)] [(0, 1, a0), (1, 1, x2), (4, 1, (Value.int .i64 (-1)))] (fun x3 w =>
 storeW 5 x1 x3 (fun _ w =>
 loadNW 5 x1 (fun x5 w =>
 K x5 w) w) w) w) w) w

/-- patience_Patience_Err -/
def S_patience_Patience_Err (a0 : Value) (K : KV) : World → Prop := fun w =>
 nilW a0 (fun x1 w =>
 addW 4 x1 (fun x2 w =>
 load1W x2 (fun x3 w =>
 K x3 w) w) w) w

/-- ref23_Step_failed -/
def S_ref23_Step_failed (a0 a1 : Value) (K : KV) : World → Prop := fun w =>
 boxW a1 (fun x1 w =>
 addW 5 x1 (fun x2 w =>
 load1W x2 (fun x3 w =>
 binIntW .neq x3 (Value.int .i64 0) (fun x4 w =>
 joinW0 (fun  w =>
 addW 5 x1 (fun x5 w =>
 load1W x5 (fun x6 w =>
 binIntW .neq x6 (Value.int .i64 0) (fun x7 w =>
 K x7 w) w) w) w) (fun j1 w =>
 condP x4 (fun w => drewW (fun w => addW 5 x1 (fun x8 w =>
 load1W x8 (fun x9 w =>
 nilW a0 (fun x10 w =>
 addW 2 x10 (fun x11 w =>
 storeW 1 x11 (Value.int .i64 4) (fun _ w =>
 andP (fun w => andP (fun w => load1W x8 (fun v w => eqP v x9 w) w) (fun w => trueP w) w) (fun w =>
 nilW a0 (fun x13 w =>
 addW 3 x13 (fun x14 w =>
 storeW 1 x14 x9 (fun _ w =>
 andP (fun w => andP (fun w => trueP w) (fun w => trueP w) w) (fun w =>
 j1  w) w) w) w) w) w) w) w) w) w) w) w) (fun w => j1  w) w) w) w) w) w) w

/-- ref23_Step_held -/
def S_ref23_Step_held (a0 a1 : Value) (K : KV) : World → Prop := fun w =>
 boxW a1 (fun x1 w =>
 drewW (fun w => addW 2 x1 (fun x2 w =>
 load1W x2 (fun x3 w =>
 nilW a0 (fun x4 w =>
 addW 0 x4 (fun x5 w =>
 load1W x5 (fun x6 w =>
 binIntW .gtr x3 x6 (fun x7 w =>
 condP x7 (fun w => K (Value.bool true) w) (fun w => nilW a0 (fun x8 w =>
 addW 1 x8 (fun x9 w =>
 load1W x9 (fun x10 w =>
 binIntW .gtr x10 (Value.int .i64 0) (fun x11 w =>
 condP x11 (fun w => nilW a0 (fun x12 w =>
 addW 1 x12 (fun x13 w =>
 load1W x13 (fun x14 w =>
 binIntW .sub x14 (Value.int .i64 1) (fun x15 w =>
 nilW a0 (fun x16 w =>
 addW 1 x16 (fun x17 w =>
 storeW 1 x17 x15 (fun _ w =>
 K (Value.bool true) w) w) w) w) w) w) w) w) (fun w => drewW (fun w => addW 2 x1 (fun x19 w =>
 load1W x19 (fun x20 w =>
 nilW a0 (fun x21 w =>
 addW 2 x21 (fun x22 w =>
 storeW 1 x22 (Value.int .i64 5) (fun _ w =>
 andP (fun w => andP (fun w => load1W x19 (fun v w => eqP v x20 w) w) (fun w => trueP w) w) (fun w =>
 nilW a0 (fun x24 w =>
 addW 4 x24 (fun x25 w =>
 storeW 1 x25 x20 (fun _ w =>
 andP (fun w => andP (fun w => trueP w) (fun w => trueP w) w) (fun w =>
 K (Value.bool false) w) w) w) w) w) w) w) w) w) w) w) w) w) w) w) w) w) w) w) w) w) w) w) w) w) w

/-- law3_lockOf -/
def S_law3_lockOf (a0 a1 : Value) (K : KV) : World → Prop := fun w =>
 boxW a0 (fun x1 w =>
 newW #[(Value.int .u64 0), (Value.bool false), (Value.int .i64 0)] (fun x2 w =>
 condP a1 (fun w => loadNW 3 x1 (fun x3 w =>
 storeW 3 x2 x3 (fun _ w =>
 loadNW 3 x2 (fun x5 w =>
 K x5 w) w) w) w) (fun w => addW 0 x1 (fun x6 w =>
 load1W x6 (fun x7 w =>
 binIntW .rem x7 (Value.int .u64 20) (fun x8 w =>
 addW 0 x1 (fun x9 w =>
 storeW 1 x9 x8 (fun _ w =>
 addW 2 x1 (fun x11 w =>
 load1W x11 (fun x12 w =>
 convW .u64 x12 (fun x13 w =>
 binIntW .rem x13 (Value.int .u64 4) (fun x14 w =>
 convW .i64 x14 (fun x15 w =>
 addW 2 x1 (fun x16 w =>
 storeW 1 x16 x15 (fun _ w =>
 addW 1 x1 (fun x18 w =>
 load1W x18 (fun x19 w =>
 notW x19 (fun x20 w =>
 joinW0 (fun  w =>
 loadNW 3 x1 (fun x21 w =>
 storeW 3 x2 x21 (fun _ w =>
 loadNW 3 x2 (fun x23 w =>
 K x23 w) w) w) w) (fun j1 w =>
 condP x20 (fun w => addW 2 x1 (fun x24 w =>
 storeW 1 x24 (Value.int .i64 0) (fun _ w =>
 j1  w) w) w) (fun w => j1  w) w) w) w) w) w) w) w) w) w) w) w) w) w) w) w) w) w) w) w) w

/-- ref1_Mem_Do -/
def S_ref1_Mem_Do (a0 a1 : Value) (K : KV) : World → Prop := fun w =>
 boxW a1 (fun x1 w =>
 newW #[(Value.int .u64 0), (Value.int .u64 0), (Value.bool false), (Value.int .i64 0), (Value.bool false), (Value.int .i64 0)] (fun x2 w =>
 buildW [(Value.int .u64 0), (Value.int .u64 0), (Value.bool false), (Value.int .i64 0), (Value.bool false), (Value.int .i64 0)] [] (fun x3 w =>
 newW #[(Value.int .u64 0), (Value.int .u64 0), (Value.bool false), (Value.int .i64 0), (Value.bool false), (Value.int .i64 0)] (fun x4 w =>
 storeW 6 x4 x3 (fun _ w =>
 addW 0 x1 (fun x6 w =>
 load1W x6 (fun x7 w =>
 binIntW .eql x7 (Value.int .i64 1) (fun x8 w =>
 joinW1 (fun x9 w =>
 joinW0 (fun  w =>
 addW 5 x4 (fun x10 w =>
 load1W x10 (fun x11 w =>
 binIntW .eql x11 (Value.int .i64 0) (fun x12 w =>
 joinW0 (fun  w =>
 loadNW 6 x4 (fun x13 w =>
 storeW 6 x2 x13 (fun _ w =>
 loadNW 6 x2 (fun x15 w =>
 K x15 w) w) w) w) (fun j3 w =>
 condP x12 (fun w => nilW a0 (fun x16 w =>
 addW 9 x16 (fun x17 w =>
 load1W x17 (fun x18 w =>
 binIntW .add x18 (Value.int .i64 1) (fun x19 w =>
 nilW a0 (fun x20 w =>
 addW 9 x20 (fun x21 w =>
 storeW 1 x21 x19 (fun _ w =>
 j3  w) w) w) w) w) w) w) w) (fun w => j3  w) w) w) w) w) w) (fun j2 w =>
 condP x9 (fun w => loadNW 10 x1 (fun x23 w =>
 CP Try.prog Fn.ref1_Mem_word [a0, x23] (fun x24 w =>
 storeW 6 x4 x24 (fun _ w =>
 j2  w) w) w) w) (fun w => binIntW .eql x7 (Value.int .i64 3) (fun x26 w =>
 joinW1 (fun x27 w =>
 joinW0 (fun  w =>
 j2  w) (fun j5 w =>
 condP x27 (fun w => loadNW 10 x1 (fun x28 w =>
 CP Try.prog Fn.ref1_Mem_lock [a0, x28] (fun x29 w =>
 storeW 6 x4 x29 (fun _ w =>
 j5  w) w) w) w) (fun w => binIntW .eql x7 (Value.int .i64 6) (fun x31 w =>
 joinW1 (fun x32 w =>
 joinW0 (fun  w =>
 j5  w) (fun j7 w =>
 condP x32 (fun w => loadNW 10 x1 (fun x33 w =>
 CP Try.prog Fn.ref1_Mem_clock [a0, x33] (fun x34 w =>
 storeW 6 x4 x34 (fun _ w =>
 j7  w) w) w) w) (fun w => binIntW .eql x7 (Value.int .i64 8) (fun x36 w =>
 joinW1 (fun x37 w =>
 joinW0 (fun  w =>
 j7  w) (fun j9 w =>
 condP x37 (fun w => drewW (fun w => addW 1 x1 (fun x38 w =>
 load1W x38 (fun x39 w =>
 binIntW .lss x39 (Value.int .i64 0) (fun x40 w =>
 gW x40 false (fun K w => addW 1 x1 K w) (fun x41 w =>
 gW x40 false (fun K w => load1W x41 K w) (fun x42 w =>
 gW x40 false (fun K w => K a0 w) (fun x43 w =>
 gW x40 false (fun K w => nilW x43 K w) (fun x44 w =>
 gW x40 false (fun K w => addW 8 x44 K w) (fun x45 w =>
 gW x40 false (fun K w => load1W x45 K w) (fun x46 w =>
 gW x40 false (fun K w => lenW x46 K w) (fun x47 w =>
 gW x40 false (fun K w => binIntW .geq x42 x47 K w) (fun x48 w =>
 pickW x40 (Value.bool true) x48 (fun x49 w =>
 joinW0 (fun  w =>
 j9  w) (fun j10 w =>
 condP x49 (fun w => addW 5 x4 (fun x50 w =>
 storeW 1 x50 (Value.int .i64 2) (fun _ w =>
 j10  w) w) w) (fun w => addW 0 x1 (fun x52 w =>
 load1W x52 (fun x53 w =>
 binIntW .eql x53 (Value.int .i64 8) (fun x54 w =>
 joinW0 (fun  w =>
 j10  w) (fun j11 w =>
 condP x54 (fun w => drewW (fun w => nilW a0 (fun x55 w =>
 addW 8 x55 (fun x56 w =>
 load1W x56 (fun x57 w =>
 addW 1 x1 (fun x58 w =>
 load1W x58 (fun x59 w =>
 idxW 1 x57 x59 (fun x60 w =>
 load1W x60 (fun x61 w =>
 addW 0 x4 (fun x62 w =>
 storeW 1 x62 x61 (fun _ w =>
 andP (fun w => andP (fun w => trueP w) (fun w => andP (fun w => trueP w) (fun w => andP (fun w => trueP w) (fun w => trueP w) w) w) w) (fun w =>
 j11  w) w) w) w) w) w) w) w) w) w) w) w) (fun w => drewW (fun w => nilW a0 (fun x64 w =>
 addW 8 x64 (fun x65 w =>
 load1W x65 (fun x66 w =>
 addW 1 x1 (fun x67 w =>
 load1W x67 (fun x68 w =>
 addW 3 x1 (fun x69 w =>
 load1W x69 (fun x70 w =>
 idxW 1 x66 x68 (fun x71 w =>
 storeW 1 x71 x70 (fun _ w =>
 andP (fun w => andP (fun w => trueP w) (fun w => andP (fun w => trueP w) (fun w => andP (fun w => trueP w) (fun w => trueP w) w) w) w) (fun w =>
 j11  w) w) w) w) w) w) w) w) w) w) w) w) w) w) w) w) w) w) w) w) w) w) w) w) w) w) w) w) w) w) w) w) (fun w => addW 5 x4 (fun x73 w =>
 storeW 1 x73 (Value.int .i64 1) (fun _ w =>
 j9  w) w) w) w) w) (fun j8 w =>
 condP x36 (fun w => j8 x36 w) (fun w => binIntW .eql x7 (Value.int .i64 9) (fun x75 w =>
 j8 x75 w) w) w) w) w) w) w) (fun j6 w =>
 condP x31 (fun w => j6 x31 w) (fun w => binIntW .eql x7 (Value.int .i64 7) (fun x76 w =>
 j6 x76 w) w) w) w) w) w) w) (fun j4 w =>
 condP x26 (fun w => j4 x26 w) (fun w => binIntW .eql x7 (Value.int .i64 4) (fun x77 w =>
 joinW1 (fun x78 w =>
 j4 x78 w) (fun j12 w =>
 condP x77 (fun w => j12 x77 w) (fun w => binIntW .eql x7 (Value.int .i64 5) (fun x79 w =>
 j12 x79 w) w) w) w) w) w) w) w) w) w) (fun j1 w =>
 condP x8 (fun w => j1 x8 w) (fun w => binIntW .eql x7 (Value.int .i64 2) (fun x80 w =>
 j1 x80 w) w) w) w) w) w) w) w) w) w) w) w

/-- stripe_Table_Store -/
def S_stripe_Table_Store (a0 a1 a2 : Value) (K : KV) : World → Prop := fun w =>
 boxW a2 (fun x1 w =>
 loadNW 3 x1 (fun x2 w =>
 CP Try.prog Fn.stripe_Table_may [a0, a1, x2] (fun x3 w =>
 binIntW .eql x3 (Value.int .i64 0) (fun x4 w =>
 joinW0 (fun  w =>
 K x3 w) (fun j1 w =>
 condP x4 (fun w => drewW (fun w => nilW a0 (fun x5 w =>
 addW 0 x5 (fun x6 w =>
 load1W x6 (fun x7 w =>
 loadNW 3 x1 (fun x8 w =>
 idxW 3 x7 a1 (fun x9 w =>
 storeW 3 x9 x8 (fun _ w =>
 andP (fun w => andP (fun w => trueP w) (fun w => andP (fun w => trueP w) (fun w => trueP w) w) w) (fun w =>
 j1  w) w) w) w) w) w) w) w) w) (fun w => j1  w) w) w) w) w) w) w

/-- ref1_Shape -/
def S_ref1_Shape (a0 : Value) (K : KV) : World → Prop := fun w =>
 boxW a0 (fun x1 w =>
 newW #[(Value.int .i64 0), (Value.int .i64 0), (Value.int .i64 0), (Value.int .i64 0), (Value.int .u64 0)] (fun x2 w =>
 addW 0 x1 (fun x3 w =>
 load1W x3 (fun x4 w =>
 CP Try.prog Fn.ref1_Held [x4, (Value.int .i64 32), (Value.int .i64 256)] (fun x5 w =>
 addW 0 x1 (fun x6 w =>
 storeW 1 x6 x5 (fun _ w =>
 addW 1 x1 (fun x8 w =>
 load1W x8 (fun x9 w =>
 CP Try.prog Fn.ref1_Held [x9, (Value.int .i64 1), (Value.int .i64 16)] (fun x10 w =>
 addW 1 x1 (fun x11 w =>
 storeW 1 x11 x10 (fun _ w =>
 addW 2 x1 (fun x13 w =>
 load1W x13 (fun x14 w =>
 CP Try.prog Fn.ref1_Held [x14, (Value.int .i64 1), (Value.int .i64 16)] (fun x15 w =>
 addW 2 x1 (fun x16 w =>
 storeW 1 x16 x15 (fun _ w =>
 addW 3 x1 (fun x18 w =>
 load1W x18 (fun x19 w =>
 CP Try.prog Fn.ref1_Held [x19, (Value.int .i64 1), (Value.int .i64 4)] (fun x20 w =>
 addW 3 x1 (fun x21 w =>
 storeW 1 x21 x20 (fun _ w =>
 addW 4 x1 (fun x23 w =>
 load1W x23 (fun x24 w =>
 binIntW .geq x24 (Value.int .u64 4611686018427387904) (fun x25 w =>
 joinW0 (fun  w =>
 loadNW 5 x1 (fun x26 w =>
 storeW 5 x2 x26 (fun _ w =>
 loadNW 5 x2 (fun x28 w =>
 K x28 w) w) w) w) (fun j1 w =>
 condP x25 (fun w => addW 4 x1 (fun x29 w =>
 storeW 1 x29 (Value.int .u64 4611686018427387903) (fun _ w =>
 j1  w) w) w) (fun w => j1  w) w) w) w) w) w) w) w) w) w) w) w) w) w) w) w) w) w) w) w) w) w) w) w) w) w) w) w

/-- mem_Held -/
def S_mem_Held (a0 : Value) (K : KV) : World → Prop := fun w =>
 boxW a0 (fun x1 w =>
 newW #[(Value.int .i64 0), (Value.int .i64 0), (Value.int .i64 0), (Value.int .i64 0), (Value.int .u64 0)] (fun x2 w =>
 addW 0 x1 (fun x3 w =>
 load1W x3 (fun x4 w =>
 minW x4 [(Value.int .i64 256)] (fun x5 w =>
 maxW (Value.int .i64 32) [x5] (fun x6 w =>
 addW 1 x1 (fun x7 w =>
 load1W x7 (fun x8 w =>
 minW x8 [(Value.int .i64 16)] (fun x9 w =>
 maxW (Value.int .i64 1) [x9] (fun x10 w =>
 addW 2 x1 (fun x11 w =>
 load1W x11 (fun x12 w =>
 minW x12 [(Value.int .i64 16)] (fun x13 w =>
 maxW (Value.int .i64 1) [x13] (fun x14 w =>
 addW 3 x1 (fun x15 w =>
 load1W x15 (fun x16 w =>
 minW x16 [(Value.int .i64 4)] (fun x17 w =>
 maxW (Value.int .i64 1) [x17] (fun x18 w =>
 addW 4 x1 (fun x19 w =>
 load1W x19 (fun x20 w =>
 minW x20 [(Value.int .u64 4611686018427387903)] (fun x21 w =>
 buildW [(Value.int .i64 0), (Value.int .i64 0), (Value.int .i64 0), (Value.int .i64 0), (Value.int .u64 0)] [(0, 1, x6), (1, 1, x10), (2, 1, x14), (3, 1, x18), (4, 1, x21)] (fun x22 w =>
 storeW 5 x2 x22 (fun _ w =>
 loadNW 5 x2 (fun x24 w =>
 K x24 w) w) w) w) w) w) w) w) w) w) w) w) w) w) w) w) w) w) w) w) w) w) w) w) w

/-- heap_New -/
def S_heap_New (a0 : Value) (K : KV) : World → Prop := fun w =>
 minW a0 [(Value.int .i64 256)] (fun x1 w =>
 maxW (Value.int .i64 32) [x1] (fun x2 w =>
 makeSliceW 8 [(Value.int .u64 0)] x2 x2 (fun x3 w =>
 buildW [(Value.slice none 0 0)] [(0, 1, x3)] (fun x4 w =>
 boxW x4 (fun x5 w =>
 K x5 w) w) w) w) w) w

/-- clock_New -/
def S_clock_New (a0 : Value) (K : KV) : World → Prop := fun w =>
 minW a0 [(Value.int .u64 4611686018427387903)] (fun x1 w =>
 buildW [(Value.int .u64 0)] [(0, 1, x1)] (fun x2 w =>
 boxW x2 (fun x3 w =>
 K x3 w) w) w) w

/-- epoch_New -/
def S_epoch_New (a0 : Value) (K : KV) : World → Prop := fun w =>
 minW a0 [(Value.int .i64 4)] (fun x1 w =>
 maxW (Value.int .i64 1) [x1] (fun x2 w =>
 makeSliceW 8 [(Value.int .u64 0)] x2 x2 (fun x3 w =>
 buildW [(Value.slice none 0 0)] [(0, 1, x3)] (fun x4 w =>
 boxW x4 (fun x5 w =>
 K x5 w) w) w) w) w) w

/-- mem_Mem_do -/
def S_mem_Mem_do (a0 a1 : Value) (K : KV) : World → Prop := fun w =>
 boxW a1 (fun x1 w =>
 newW #[(Value.int .u64 0), (Value.int .u64 0), (Value.bool false), (Value.int .i64 0), (Value.bool false), (Value.int .i64 0)] (fun x2 w =>
 newW #[(Value.int .u64 0), (Value.int .u64 0), (Value.bool false), (Value.int .i64 0), (Value.bool false), (Value.int .i64 0)] (fun x3 w =>
 addW 0 x1 (fun x4 w =>
 load1W x4 (fun x5 w =>
 binIntW .eql x5 (Value.int .i64 1) (fun x6 w =>
 joinW0 (fun  w =>
 loadNW 6 x3 (fun x7 w =>
 storeW 6 x2 x7 (fun _ w =>
 loadNW 6 x2 (fun x9 w =>
 K x9 w) w) w) w) (fun j1 w =>
 condP x6 (fun w => drewW (fun w => nilW a0 (fun x10 w =>
 addW 5 x10 (fun x11 w =>
 load1W x11 (fun x12 w =>
 addW 1 x1 (fun x13 w =>
 load1W x13 (fun x14 w =>
 CP Try.prog Fn.heap_Heap_Load [x12, x14] (fun x15 w =>
 andP (fun w => andP (fun w => trueP w) (fun w => andP (fun w => trueP w) (fun w => trueP w) w) w) (fun w =>
 extractW 0 x15 (fun x16 w =>
 extractW 1 x15 (fun x17 w =>
 addW 0 x3 (fun x18 w =>
 storeW 1 x18 x16 (fun _ w =>
 andP (fun w => trueP w) (fun w =>
 addW 5 x3 (fun x20 w =>
 storeW 1 x20 x17 (fun _ w =>
 andP (fun w => trueP w) (fun w =>
 j1  w) w) w) w) w) w) w) w) w) w) w) w) w) w) w) w) w) (fun w => binIntW .eql x5 (Value.int .i64 2) (fun x22 w =>
 joinW0 (fun  w =>
 j1  w) (fun j2 w =>
 condP x22 (fun w => drewW (fun w => nilW a0 (fun x23 w =>
 addW 5 x23 (fun x24 w =>
 load1W x24 (fun x25 w =>
 addW 1 x1 (fun x26 w =>
 load1W x26 (fun x27 w =>
 addW 3 x1 (fun x28 w =>
 load1W x28 (fun x29 w =>
 CP Try.prog Fn.heap_Heap_Store [x25, x27, x29] (fun x30 w =>
 andP (fun w => andP (fun w => trueP w) (fun w => andP (fun w => trueP w) (fun w => andP (fun w => trueP w) (fun w => trueP w) w) w) w) (fun w =>
 addW 5 x3 (fun x31 w =>
 storeW 1 x31 x30 (fun _ w =>
 andP (fun w => trueP w) (fun w =>
 j2  w) w) w) w) w) w) w) w) w) w) w) w) w) w) (fun w => binIntW .eql x5 (Value.int .i64 3) (fun x33 w =>
 joinW0 (fun  w =>
 j2  w) (fun j3 w =>
 condP x33 (fun w => drewW (fun w => nilW a0 (fun x34 w =>
 addW 6 x34 (fun x35 w =>
 load1W x35 (fun x36 w =>
 addW 1 x1 (fun x37 w =>
 load1W x37 (fun x38 w =>
 CP Try.prog Fn.stripe_Table_Load [x36, x38] (fun x39 w =>
 andP (fun w => andP (fun w => trueP w) (fun w => andP (fun w => trueP w) (fun w => trueP w) w) w) (fun w =>
 extractW 0 x39 (fun x40 w =>
 extractW 1 x39 (fun x41 w =>
 addW 1 x3 (fun x42 w =>
 storeW 3 x42 x40 (fun _ w =>
 andP (fun w => trueP w) (fun w =>
 addW 5 x3 (fun x44 w =>
 storeW 1 x44 x41 (fun _ w =>
 andP (fun w => trueP w) (fun w =>
 j3  w) w) w) w) w) w) w) w) w) w) w) w) w) w) w) w) w) (fun w => binIntW .eql x5 (Value.int .i64 4) (fun x46 w =>
 joinW0 (fun  w =>
 j3  w) (fun j4 w =>
 condP x46 (fun w => drewW (fun w => nilW a0 (fun x47 w =>
 addW 6 x47 (fun x48 w =>
 load1W x48 (fun x49 w =>
 addW 1 x1 (fun x50 w =>
 load1W x50 (fun x51 w =>
 addW 4 x1 (fun x52 w =>
 loadNW 3 x52 (fun x53 w =>
 addW 7 x1 (fun x54 w =>
 loadNW 3 x54 (fun x55 w =>
 CP Try.prog Fn.stripe_Table_Cas [x49, x51, x53, x55] (fun x56 w =>
 andP (fun w => andP (fun w => trueP w) (fun w => andP (fun w => trueP w) (fun w => andP (fun w => trueP w) (fun w => andP (fun w => trueP w) (fun w => trueP w) w) w) w) w) (fun w =>
 extractW 0 x56 (fun x57 w =>
 extractW 1 x56 (fun x58 w =>
 addW 4 x3 (fun x59 w =>
 storeW 1 x59 x57 (fun _ w =>
 andP (fun w => trueP w) (fun w =>
 addW 5 x3 (fun x61 w =>
 storeW 1 x61 x58 (fun _ w =>
 andP (fun w => trueP w) (fun w =>
 j4  w) w) w) w) w) w) w) w) w) w) w) w) w) w) w) w) w) w) w) w) w) (fun w => binIntW .eql x5 (Value.int .i64 5) (fun x63 w =>
 joinW0 (fun  w =>
 j4  w) (fun j5 w =>
 condP x63 (fun w => drewW (fun w => nilW a0 (fun x64 w =>
 addW 6 x64 (fun x65 w =>
 load1W x65 (fun x66 w =>
 addW 1 x1 (fun x67 w =>
 load1W x67 (fun x68 w =>
 addW 7 x1 (fun x69 w =>
 loadNW 3 x69 (fun x70 w =>
 CP Try.prog Fn.stripe_Table_Store [x66, x68, x70] (fun x71 w =>
 andP (fun w => andP (fun w => trueP w) (fun w => andP (fun w => trueP w) (fun w => andP (fun w => trueP w) (fun w => trueP w) w) w) w) (fun w =>
 addW 5 x3 (fun x72 w =>
 storeW 1 x72 x71 (fun _ w =>
 andP (fun w => trueP w) (fun w =>
 j5  w) w) w) w) w) w) w) w) w) w) w) w) w) w) (fun w => binIntW .eql x5 (Value.int .i64 6) (fun x74 w =>
 joinW0 (fun  w =>
 j5  w) (fun j6 w =>
 condP x74 (fun w => nilW a0 (fun x75 w =>
 addW 7 x75 (fun x76 w =>
 load1W x76 (fun x77 w =>
 CP Try.prog Fn.clock_Clock_Load [x77] (fun x78 w =>
 addW 0 x3 (fun x79 w =>
 storeW 1 x79 x78 (fun _ w =>
 j6  w) w) w) w) w) w) w) (fun w => binIntW .eql x5 (Value.int .i64 7) (fun x81 w =>
 joinW0 (fun  w =>
 j6  w) (fun j7 w =>
 condP x81 (fun w => drewW (fun w => nilW a0 (fun x82 w =>
 addW 7 x82 (fun x83 w =>
 load1W x83 (fun x84 w =>
 addW 2 x1 (fun x85 w =>
 load1W x85 (fun x86 w =>
 addW 3 x1 (fun x87 w =>
 load1W x87 (fun x88 w =>
 CP Try.prog Fn.clock_Clock_Cas [x84, x86, x88] (fun x89 w =>
 andP (fun w => andP (fun w => trueP w) (fun w => andP (fun w => trueP w) (fun w => andP (fun w => trueP w) (fun w => trueP w) w) w) w) (fun w =>
 extractW 0 x89 (fun x90 w =>
 extractW 1 x89 (fun x91 w =>
 addW 4 x3 (fun x92 w =>
 storeW 1 x92 x90 (fun _ w =>
 andP (fun w => trueP w) (fun w =>
 addW 5 x3 (fun x94 w =>
 storeW 1 x94 x91 (fun _ w =>
 andP (fun w => trueP w) (fun w =>
 j7  w) w) w) w) w) w) w) w) w) w) w) w) w) w) w) w) w) w) w) (fun w => binIntW .eql x5 (Value.int .i64 8) (fun x96 w =>
 joinW0 (fun  w =>
 j7  w) (fun j8 w =>
 condP x96 (fun w => drewW (fun w => nilW a0 (fun x97 w =>
 addW 8 x97 (fun x98 w =>
 load1W x98 (fun x99 w =>
 addW 1 x1 (fun x100 w =>
 load1W x100 (fun x101 w =>
 CP Try.prog Fn.epoch_Slots_Load [x99, x101] (fun x102 w =>
 andP (fun w => andP (fun w => trueP w) (fun w => andP (fun w => trueP w) (fun w => trueP w) w) w) (fun w =>
 extractW 0 x102 (fun x103 w =>
 extractW 1 x102 (fun x104 w =>
 addW 0 x3 (fun x105 w =>
 storeW 1 x105 x103 (fun _ w =>
 andP (fun w => trueP w) (fun w =>
 addW 5 x3 (fun x107 w =>
 storeW 1 x107 x104 (fun _ w =>
 andP (fun w => trueP w) (fun w =>
 j8  w) w) w) w) w) w) w) w) w) w) w) w) w) w) w) w) w) (fun w => binIntW .eql x5 (Value.int .i64 9) (fun x109 w =>
 joinW0 (fun  w =>
 j8  w) (fun j9 w =>
 condP x109 (fun w => drewW (fun w => nilW a0 (fun x110 w =>
 addW 8 x110 (fun x111 w =>
 load1W x111 (fun x112 w =>
 addW 1 x1 (fun x113 w =>
 load1W x113 (fun x114 w =>
 addW 3 x1 (fun x115 w =>
 load1W x115 (fun x116 w =>
 CP Try.prog Fn.epoch_Slots_Store [x112, x114, x116] (fun x117 w =>
 andP (fun w => andP (fun w => trueP w) (fun w => andP (fun w => trueP w) (fun w => andP (fun w => trueP w) (fun w => trueP w) w) w) w) (fun w =>
 addW 5 x3 (fun x118 w =>
 storeW 1 x118 x117 (fun _ w =>
 andP (fun w => trueP w) (fun w =>
 j9  w) w) w) w) w) w) w) w) w) w) w) w) w) w) (fun w => addW 5 x3 (fun x120 w =>
 storeW 1 x120 (Value.int .i64 1) (fun _ w =>
 j9  w) w) w) w) w) w) w) w) w) w) w) w) w) w) w) w) w) w) w) w) w) w) w) w) w) w) w) w) w) w) w) w) w) w) w

/-- clock_Clock_Load -/
def S_clock_Clock_Load (a0 : Value) (K : KV) : World → Prop := fun w =>
 nilW a0 (fun x1 w =>
 addW 0 x1 (fun x2 w =>
 load1W x2 (fun x3 w =>
 K x3 w) w) w) w

/-- lock_Is -/
def S_lock_Is (a0 : Value) (K : KV) : World → Prop := fun w =>
 boxW a0 (fun x1 w =>
 addW 1 x1 (fun x2 w =>
 load1W x2 (fun x3 w =>
 condP x3 (fun w => addW 0 x1 (fun x4 w =>
 load1W x4 (fun x5 w =>
 binIntW .lss x5 (Value.int .u64 4611686018427387904) (fun x6 w =>
 gW x6 true (fun K w => addW 2 x1 K w) (fun x7 w =>
 gW x6 true (fun K w => load1W x7 K w) (fun x8 w =>
 gW x6 true (fun K w => CP Try.prog Fn.lock_owns [x8] K w) (fun x9 w =>
 pickW x6 x9 (Value.bool false) (fun x10 w =>
 K x10 w) w) w) w) w) w) w) w) (fun w => addW 0 x1 (fun x11 w =>
 load1W x11 (fun x12 w =>
 binIntW .lss x12 (Value.int .u64 4611686018427387904) (fun x13 w =>
 gW x13 true (fun K w => addW 2 x1 K w) (fun x14 w =>
 gW x13 true (fun K w => load1W x14 K w) (fun x15 w =>
 gW x13 true (fun K w => binIntW .eql x15 (Value.int .i64 0) K w) (fun x16 w =>
 pickW x13 x16 (Value.bool false) (fun x17 w =>
 K x17 w) w) w) w) w) w) w) w) w) w) w) w

/-- slices_Clone_api_Lock_api_Lock -/
def S_slices_Clone_api_Lock_api_Lock (a0 : Value) (K : KV) : World → Prop := fun w =>
 eqNilSliceW .eql a0 (Value.slice none 0 0) (fun x1 w =>
 condP x1 (fun w => K (Value.slice none 0 0) w) (fun w => buildSliceW [(Value.int .u64 0), (Value.bool false), (Value.int .i64 0)] 0 [] (fun x2 w =>
 appendW 3 24 x2 a0 (fun x3 w =>
 K x3 w) w) w) w) w

/-- ref1_Mem_word -/
def S_ref1_Mem_word (a0 a1 : Value) (K : KV) : World → Prop := fun w =>
 boxW a1 (fun x1 w =>
 newW #[(Value.int .u64 0), (Value.int .u64 0), (Value.bool false), (Value.int .i64 0), (Value.bool false), (Value.int .i64 0)] (fun x2 w =>
 drewW (fun w => addW 1 x1 (fun x3 w =>
 load1W x3 (fun x4 w =>
 binIntW .lss x4 (Value.int .i64 1) (fun x5 w =>
 gW x5 false (fun K w => addW 1 x1 K w) (fun x6 w =>
 gW x5 false (fun K w => load1W x6 K w) (fun x7 w =>
 gW x5 false (fun K w => K a0 w) (fun x8 w =>
 gW x5 false (fun K w => nilW x8 K w) (fun x9 w =>
 gW x5 false (fun K w => addW 5 x9 K w) (fun x10 w =>
 gW x5 false (fun K w => load1W x10 K w) (fun x11 w =>
 gW x5 false (fun K w => lenW x11 K w) (fun x12 w =>
 gW x5 false (fun K w => binIntW .geq x7 x12 K w) (fun x13 w =>
 pickW x5 (Value.bool true) x13 (fun x14 w =>
 condP x14 (fun w => buildW [(Value.int .u64 0), (Value.int .u64 0), (Value.bool false), (Value.int .i64 0), (Value.bool false), (Value.int .i64 0)] [(5, 1, (Value.int .i64 2))] (fun x15 w =>
 storeW 6 x2 x15 (fun _ w =>
 loadNW 6 x2 (fun x17 w =>
 K x17 w) w) w) w) (fun w => addW 0 x1 (fun x18 w =>
 load1W x18 (fun x19 w =>
 binIntW .eql x19 (Value.int .i64 1) (fun x20 w =>
 condP x20 (fun w => drewW (fun w => nilW a0 (fun x21 w =>
 addW 5 x21 (fun x22 w =>
 load1W x22 (fun x23 w =>
 addW 1 x1 (fun x24 w =>
 load1W x24 (fun x25 w =>
 idxW 1 x23 x25 (fun x26 w =>
 load1W x26 (fun x27 w =>
 buildW [(Value.int .u64 0), (Value.int .u64 0), (Value.bool false), (Value.int .i64 0), (Value.bool false), (Value.int .i64 0)] [(0, 1, x27)] (fun x28 w =>
 storeW 6 x2 x28 (fun _ w =>
 andP (fun w => andP (fun w => trueP w) (fun w => andP (fun w => trueP w) (fun w => andP (fun w => trueP w) (fun w => trueP w) w) w) w) (fun w =>
 loadNW 6 x2 (fun x30 w =>
 K x30 w) w) w) w) w) w) w) w) w) w) w) w) w) (fun w => drewW (fun w => nilW a0 (fun x31 w =>
 addW 5 x31 (fun x32 w =>
 load1W x32 (fun x33 w =>
 addW 1 x1 (fun x34 w =>
 load1W x34 (fun x35 w =>
 addW 3 x1 (fun x36 w =>
 load1W x36 (fun x37 w =>
 idxW 1 x33 x35 (fun x38 w =>
 storeW 1 x38 x37 (fun _ w =>
 andP (fun w => andP (fun w => trueP w) (fun w => andP (fun w => trueP w) (fun w => andP (fun w => trueP w) (fun w => trueP w) w) w) w) (fun w =>
 buildW [(Value.int .u64 0), (Value.int .u64 0), (Value.bool false), (Value.int .i64 0), (Value.bool false), (Value.int .i64 0)] [] (fun x40 w =>
 storeW 6 x2 x40 (fun _ w =>
 loadNW 6 x2 (fun x42 w =>
 K x42 w) w) w) w) w) w) w) w) w) w) w) w) w) w) w) w) w) w) w) w) w) w) w) w) w) w) w) w) w) w) w) w) w) w) w

/-- ref1_Mem_lock -/
def S_ref1_Mem_lock (a0 a1 : Value) (K : KV) : World → Prop := fun w =>
 boxW a1 (fun x1 w =>
 newW #[(Value.int .u64 0), (Value.int .u64 0), (Value.bool false), (Value.int .i64 0), (Value.bool false), (Value.int .i64 0)] (fun x2 w =>
 drewW (fun w => addW 1 x1 (fun x3 w =>
 load1W x3 (fun x4 w =>
 binIntW .lss x4 (Value.int .i64 0) (fun x5 w =>
 gW x5 false (fun K w => addW 1 x1 K w) (fun x6 w =>
 gW x5 false (fun K w => load1W x6 K w) (fun x7 w =>
 gW x5 false (fun K w => K a0 w) (fun x8 w =>
 gW x5 false (fun K w => nilW x8 K w) (fun x9 w =>
 gW x5 false (fun K w => addW 6 x9 K w) (fun x10 w =>
 gW x5 false (fun K w => load1W x10 K w) (fun x11 w =>
 gW x5 false (fun K w => lenW x11 K w) (fun x12 w =>
 gW x5 false (fun K w => binIntW .geq x7 x12 K w) (fun x13 w =>
 pickW x5 (Value.bool true) x13 (fun x14 w =>
 condP x14 (fun w => buildW [(Value.int .u64 0), (Value.int .u64 0), (Value.bool false), (Value.int .i64 0), (Value.bool false), (Value.int .i64 0)] [(5, 1, (Value.int .i64 2))] (fun x15 w =>
 storeW 6 x2 x15 (fun _ w =>
 loadNW 6 x2 (fun x17 w =>
 K x17 w) w) w) w) (fun w => addW 0 x1 (fun x18 w =>
 load1W x18 (fun x19 w =>
 binIntW .eql x19 (Value.int .i64 3) (fun x20 w =>
 condP x20 (fun w => drewW (fun w => nilW a0 (fun x21 w =>
 addW 6 x21 (fun x22 w =>
 load1W x22 (fun x23 w =>
 addW 1 x1 (fun x24 w =>
 load1W x24 (fun x25 w =>
 idxW 3 x23 x25 (fun x26 w =>
 loadNW 3 x26 (fun x27 w =>
 buildW [(Value.int .u64 0), (Value.int .u64 0), (Value.bool false), (Value.int .i64 0), (Value.bool false), (Value.int .i64 0)] [(1, 3, x27)] (fun x28 w =>
 storeW 6 x2 x28 (fun _ w =>
 andP (fun w => andP (fun w => trueP w) (fun w => andP (fun w => trueP w) (fun w => andP (fun w => trueP w) (fun w => trueP w) w) w) w) (fun w =>
 loadNW 6 x2 (fun x30 w =>
 K x30 w) w) w) w) w) w) w) w) w) w) w) w) w) (fun w => addW 7 x1 (fun x31 w =>
 loadNW 3 x31 (fun x32 w =>
 CP Try.prog Fn.ref1_IsLock [x32] (fun x33 w =>
 notW x33 (fun x34 w =>
 condP x34 (fun w => buildW [(Value.int .u64 0), (Value.int .u64 0), (Value.bool false), (Value.int .i64 0), (Value.bool false), (Value.int .i64 0)] [(5, 1, (Value.int .i64 1))] (fun x35 w =>
 storeW 6 x2 x35 (fun _ w =>
 loadNW 6 x2 (fun x37 w =>
 K x37 w) w) w) w) (fun w => addW 0 x1 (fun x38 w =>
 load1W x38 (fun x39 w =>
 binIntW .eql x39 (Value.int .i64 5) (fun x40 w =>
 condP x40 (fun w => drewW (fun w => nilW a0 (fun x41 w =>
 addW 6 x41 (fun x42 w =>
 load1W x42 (fun x43 w =>
 addW 1 x1 (fun x44 w =>
 load1W x44 (fun x45 w =>
 addW 7 x1 (fun x46 w =>
 loadNW 3 x46 (fun x47 w =>
 idxW 3 x43 x45 (fun x48 w =>
 storeW 3 x48 x47 (fun _ w =>
 andP (fun w => andP (fun w => trueP w) (fun w => andP (fun w => trueP w) (fun w => andP (fun w => trueP w) (fun w => trueP w) w) w) w) (fun w =>
 buildW [(Value.int .u64 0), (Value.int .u64 0), (Value.bool false), (Value.int .i64 0), (Value.bool false), (Value.int .i64 0)] [] (fun x50 w =>
 storeW 6 x2 x50 (fun _ w =>
 loadNW 6 x2 (fun x52 w =>
 K x52 w) w) w) w) w) w) w) w) w) w) w) w) w) w) w) (fun w => drewW (fun w => nilW a0 (fun x53 w =>
 addW 6 x53 (fun x54 w =>
 load1W x54 (fun x55 w =>
 addW 1 x1 (fun x56 w =>
 load1W x56 (fun x57 w =>
 idxW 3 x55 x57 (fun x58 w =>
 loadNW 3 x58 (fun x59 w =>
 addW 4 x1 (fun x60 w =>
 loadNW 3 x60 (fun x61 w =>
 eqAggW [.i .u64, .b, .i .i64] .neq x59 x61 (fun x62 w =>
 condP x62 (fun w => buildW [(Value.int .u64 0), (Value.int .u64 0), (Value.bool false), (Value.int .i64 0), (Value.bool false), (Value.int .i64 0)] [] (fun x63 w =>
 storeW 6 x2 x63 (fun _ w =>
 loadNW 6 x2 (fun x65 w =>
 K x65 w) w) w) w) (fun w => drewW (fun w => nilW a0 (fun x66 w =>
 addW 6 x66 (fun x67 w =>
 load1W x67 (fun x68 w =>
 addW 1 x1 (fun x69 w =>
 load1W x69 (fun x70 w =>
 addW 7 x1 (fun x71 w =>
 loadNW 3 x71 (fun x72 w =>
 idxW 3 x68 x70 (fun x73 w =>
 storeW 3 x73 x72 (fun _ w =>
 andP (fun w => andP (fun w => trueP w) (fun w => andP (fun w => trueP w) (fun w => andP (fun w => trueP w) (fun w => trueP w) w) w) w) (fun w =>
 buildW [(Value.int .u64 0), (Value.int .u64 0), (Value.bool false), (Value.int .i64 0), (Value.bool false), (Value.int .i64 0)] [(4, 1, (Value.bool true))] (fun x75 w =>
 storeW 6 x2 x75 (fun _ w =>
 loadNW 6 x2 (fun x77 w =>
 K x77 w) w) w) w) w) w) w) w) w) w) w) w) w) w) w) w) w) w) w) w) w) w) w) w) w) w) w) w) w) w) w) w) w) w) w) w) w) w) w) w) w) w) w) w) w) w) w) w) w) w) w) w) w) w) w) w

/-- ref1_Mem_clock -/
def S_ref1_Mem_clock (a0 a1 : Value) (K : KV) : World → Prop := fun w =>
 boxW a1 (fun x1 w =>
 newW #[(Value.int .u64 0), (Value.int .u64 0), (Value.bool false), (Value.int .i64 0), (Value.bool false), (Value.int .i64 0)] (fun x2 w =>
 addW 0 x1 (fun x3 w =>
 load1W x3 (fun x4 w =>
 binIntW .eql x4 (Value.int .i64 6) (fun x5 w =>
 condP x5 (fun w => nilW a0 (fun x6 w =>
 addW 7 x6 (fun x7 w =>
 load1W x7 (fun x8 w =>
 buildW [(Value.int .u64 0), (Value.int .u64 0), (Value.bool false), (Value.int .i64 0), (Value.bool false), (Value.int .i64 0)] [(0, 1, x8)] (fun x9 w =>
 storeW 6 x2 x9 (fun _ w =>
 loadNW 6 x2 (fun x11 w =>
 K x11 w) w) w) w) w) w) w) (fun w => addW 3 x1 (fun x12 w =>
 load1W x12 (fun x13 w =>
 addW 2 x1 (fun x14 w =>
 load1W x14 (fun x15 w =>
 binIntW .leq x13 x15 (fun x16 w =>
 condP x16 (fun w => buildW [(Value.int .u64 0), (Value.int .u64 0), (Value.bool false), (Value.int .i64 0), (Value.bool false), (Value.int .i64 0)] [(5, 1, (Value.int .i64 1))] (fun x17 w =>
 storeW 6 x2 x17 (fun _ w =>
 loadNW 6 x2 (fun x19 w =>
 K x19 w) w) w) w) (fun w => addW 3 x1 (fun x20 w =>
 load1W x20 (fun x21 w =>
 binIntW .geq x21 (Value.int .u64 4611686018427387904) (fun x22 w =>
 condP x22 (fun w => buildW [(Value.int .u64 0), (Value.int .u64 0), (Value.bool false), (Value.int .i64 0), (Value.bool false), (Value.int .i64 0)] [(5, 1, (Value.int .i64 7))] (fun x23 w =>
 storeW 6 x2 x23 (fun _ w =>
 loadNW 6 x2 (fun x25 w =>
 K x25 w) w) w) w) (fun w => drewW (fun w => nilW a0 (fun x26 w =>
 addW 7 x26 (fun x27 w =>
 load1W x27 (fun x28 w =>
 addW 2 x1 (fun x29 w =>
 load1W x29 (fun x30 w =>
 binIntW .neq x28 x30 (fun x31 w =>
 condP x31 (fun w => buildW [(Value.int .u64 0), (Value.int .u64 0), (Value.bool false), (Value.int .i64 0), (Value.bool false), (Value.int .i64 0)] [] (fun x32 w =>
 storeW 6 x2 x32 (fun _ w =>
 loadNW 6 x2 (fun x34 w =>
 K x34 w) w) w) w) (fun w => addW 3 x1 (fun x35 w =>
 load1W x35 (fun x36 w =>
 nilW a0 (fun x37 w =>
 addW 7 x37 (fun x38 w =>
 storeW 1 x38 x36 (fun _ w =>
 buildW [(Value.int .u64 0), (Value.int .u64 0), (Value.bool false), (Value.int .i64 0), (Value.bool false), (Value.int .i64 0)] [(4, 1, (Value.bool true))] (fun x40 w =>
 storeW 6 x2 x40 (fun _ w =>
 loadNW 6 x2 (fun x42 w =>
 K x42 w) w) w) w) w) w) w) w) w) w) w) w) w) w) w) w) w) w) w) w) w) w) w) w) w) w) w) w) w) w) w) w) w

/-- heap_Heap_Load -/
def S_heap_Heap_Load (a0 a1 : Value) (K : KV) : World → Prop := fun w =>
 CP Try.prog Fn.heap_Heap_is [a0, a1] (fun x1 w =>
 notW x1 (fun x2 w =>
 condP x2 (fun w => K (Value.tuple #[(Value.int .u64 0), (Value.int .i64 2)]) w) (fun w => nilW a0 (fun x3 w =>
 addW 0 x3 (fun x4 w =>
 load1W x4 (fun x5 w =>
 idxW 1 x5 a1 (fun x6 w =>
 load1W x6 (fun x7 w =>
 K (Value.tuple #[x7, (Value.int .i64 0)]) w) w) w) w) w) w) w) w) w

/-- heap_Heap_Store -/
def S_heap_Heap_Store (a0 a1 a2 : Value) (K : KV) : World → Prop := fun w =>
 CP Try.prog Fn.heap_Heap_is [a0, a1] (fun x1 w =>
 notW x1 (fun x2 w =>
 condP x2 (fun w => K (Value.int .i64 2) w) (fun w => nilW a0 (fun x3 w =>
 addW 0 x3 (fun x4 w =>
 load1W x4 (fun x5 w =>
 idxW 1 x5 a1 (fun x6 w =>
 storeW 1 x6 a2 (fun _ w =>
 K (Value.int .i64 0) w) w) w) w) w) w) w) w) w

/-- clock_Clock_Cas -/
def S_clock_Clock_Cas (a0 a1 a2 : Value) (K : KV) : World → Prop := fun w =>
 binIntW .leq a2 a1 (fun x1 w =>
 condP x1 (fun w => K (Value.tuple #[(Value.bool false), (Value.int .i64 1)]) w) (fun w => binIntW .geq a2 (Value.int .u64 4611686018427387904) (fun x2 w =>
 condP x2 (fun w => K (Value.tuple #[(Value.bool false), (Value.int .i64 7)]) w) (fun w => nilW a0 (fun x3 w =>
 addW 0 x3 (fun x4 w =>
 load1W x4 (fun x5 w =>
 binIntW .neq x5 a1 (fun x6 w =>
 condP x6 (fun w => K (Value.tuple #[(Value.bool false), (Value.int .i64 0)]) w) (fun w => nilW a0 (fun x7 w =>
 addW 0 x7 (fun x8 w =>
 storeW 1 x8 a2 (fun _ w =>
 K (Value.tuple #[(Value.bool true), (Value.int .i64 0)]) w) w) w) w) w) w) w) w) w) w) w) w) w

/-- epoch_Slots_Load -/
def S_epoch_Slots_Load (a0 a1 : Value) (K : KV) : World → Prop := fun w =>
 CP Try.prog Fn.epoch_Slots_is [a0, a1] (fun x1 w =>
 notW x1 (fun x2 w =>
 condP x2 (fun w => K (Value.tuple #[(Value.int .u64 0), (Value.int .i64 2)]) w) (fun w => nilW a0 (fun x3 w =>
 addW 0 x3 (fun x4 w =>
 load1W x4 (fun x5 w =>
 idxW 1 x5 a1 (fun x6 w =>
 load1W x6 (fun x7 w =>
 K (Value.tuple #[x7, (Value.int .i64 0)]) w) w) w) w) w) w) w) w) w

/-- epoch_Slots_Store -/
def S_epoch_Slots_Store (a0 a1 a2 : Value) (K : KV) : World → Prop := fun w =>
 CP Try.prog Fn.epoch_Slots_is [a0, a1] (fun x1 w =>
 notW x1 (fun x2 w =>
 condP x2 (fun w => K (Value.int .i64 2) w) (fun w => nilW a0 (fun x3 w =>
 addW 0 x3 (fun x4 w =>
 load1W x4 (fun x5 w =>
 idxW 1 x5 a1 (fun x6 w =>
 storeW 1 x6 a2 (fun _ w =>
 K (Value.int .i64 0) w) w) w) w) w) w) w) w) w

/-- lock_owns -/
def S_lock_owns (a0 : Value) (K : KV) : World → Prop := fun w =>
 binIntW .geq a0 (Value.int .i64 0) (fun x1 w =>
 gW x1 true (fun K w => K a0 w) (fun x2 w =>
 gW x1 true (fun K w => binIntW .lss x2 (Value.int .i64 4) K w) (fun x3 w =>
 pickW x1 x3 (Value.bool false) (fun x4 w =>
 K x4 w) w) w) w) w

/-- ref1_IsLock -/
def S_ref1_IsLock (a0 : Value) (K : KV) : World → Prop := fun w =>
 boxW a0 (fun x1 w =>
 addW 0 x1 (fun x2 w =>
 load1W x2 (fun x3 w =>
 binIntW .geq x3 (Value.int .u64 4611686018427387904) (fun x4 w =>
 condP x4 (fun w => K (Value.bool false) w) (fun w => addW 1 x1 (fun x5 w =>
 load1W x5 (fun x6 w =>
 condP x6 (fun w => addW 2 x1 (fun x7 w =>
 load1W x7 (fun x8 w =>
 binIntW .geq x8 (Value.int .i64 0) (fun x9 w =>
 gW x9 true (fun K w => addW 2 x1 K w) (fun x10 w =>
 gW x9 true (fun K w => load1W x10 K w) (fun x11 w =>
 gW x9 true (fun K w => binIntW .lss x11 (Value.int .i64 4) K w) (fun x12 w =>
 pickW x9 x12 (Value.bool false) (fun x13 w =>
 K x13 w) w) w) w) w) w) w) w) (fun w => addW 2 x1 (fun x14 w =>
 load1W x14 (fun x15 w =>
 binIntW .eql x15 (Value.int .i64 0) (fun x16 w =>
 K x16 w) w) w) w) w) w) w) w) w) w) w) w

/-- heap_Heap_is -/
def S_heap_Heap_is (a0 a1 : Value) (K : KV) : World → Prop := fun w =>
 binIntW .geq a1 (Value.int .i64 1) (fun x1 w =>
 gW x1 true (fun K w => K a1 w) (fun x2 w =>
 gW x1 true (fun K w => K a0 w) (fun x3 w =>
 gW x1 true (fun K w => nilW x3 K w) (fun x4 w =>
 gW x1 true (fun K w => addW 0 x4 K w) (fun x5 w =>
 gW x1 true (fun K w => load1W x5 K w) (fun x6 w =>
 gW x1 true (fun K w => lenW x6 K w) (fun x7 w =>
 gW x1 true (fun K w => binIntW .lss x2 x7 K w) (fun x8 w =>
 pickW x1 x8 (Value.bool false) (fun x9 w =>
 K x9 w) w) w) w) w) w) w) w) w) w

/-- epoch_Slots_is -/
def S_epoch_Slots_is (a0 a1 : Value) (K : KV) : World → Prop := fun w =>
 binIntW .geq a1 (Value.int .i64 0) (fun x1 w =>
 gW x1 true (fun K w => K a1 w) (fun x2 w =>
 gW x1 true (fun K w => K a0 w) (fun x3 w =>
 gW x1 true (fun K w => nilW x3 K w) (fun x4 w =>
 gW x1 true (fun K w => addW 0 x4 K w) (fun x5 w =>
 gW x1 true (fun K w => load1W x5 K w) (fun x6 w =>
 gW x1 true (fun K w => lenW x6 K w) (fun x7 w =>
 gW x1 true (fun K w => binIntW .lss x2 x7 K w) (fun x8 w =>
 pickW x1 x8 (Value.bool false) (fun x9 w =>
 K x9 w) w) w) w) w) w) w) w) w) w

end Go.Proofs.Ytaghnmllaghcbaa.S
