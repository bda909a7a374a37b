/-
  THE PLAIN FORMS, WITH THE WORLD NAMED AT EACH STEP, by a program.
-/
import Derived.Test.YtokbiojkpldfeaaGreatSForm
namespace Go.Proofs.YtokbiojkpldfeaaGreat.S
open Go Go.Proofs
set_option linter.unusedVariables false
set_option maxRecDepth 100000
/-- law25_CommitRaw -/
def P_law25_CommitRaw (a0 a1 : Value) (K : KV) : World → Prop := fun w =>
 boxW a0 (fun x1 w =>
 CP Tryz.prog Fn.law25_CommitRuns [] (fun x2 w =>
 notW x2 (fun x3 w =>
 condP x3 (fun w => K (Value.bool false) w) (fun w => loadNW 9 x1 (fun x4 w =>
 CP Tryz.prog Fn.law25_Case_shape [x4] (fun x5 w =>
 extractW 0 x5 (fun x6 w =>
 extractW 1 x5 (fun x7 w =>
 extractW 2 x5 (fun x8 w =>
 extractW 3 x5 (fun x9 w =>
 extractW 4 x5 (fun x10 w =>
 newW #[(Value.int .i64 0), (Value.int .i64 0), (Value.int .i64 0), (Value.int .i64 0), (Value.int .u64 0)] (fun x11 w =>
 storeW 5 x11 x6 (fun _ w =>
 drewW (fun w => addW 0 x1 (fun x13 w =>
 load1W x13 (fun x14 w =>
 addW 1 x1 (fun x15 w =>
 load1W x15 (fun x16 w =>
 addW 2 x1 (fun x17 w =>
 load1W x17 (fun x18 w =>
 convW .u64 x18 (fun x19 w =>
 addW 7 x1 (fun x20 w =>
 load1W x20 (fun x21 w =>
 addW 8 x1 (fun x22 w =>
 load1W x22 (fun x23 w =>
 addW 0 x1 (fun x24 w =>
 load1W x24 (fun x25 w =>
 addW 1 x1 (fun x26 w =>
 load1W x26 (fun x27 w =>
 addW 2 x1 (fun x28 w =>
 load1W x28 (fun x29 w =>
 convW .u64 x29 (fun x30 w =>
 addW 7 x1 (fun x31 w =>
 load1W x31 (fun x32 w =>
 addW 8 x1 (fun x33 w =>
 load1W x33 (fun x34 w =>
 CP Tryz.prog Fn.commit_New [x14, x16, x19, x7, x8, x21, x23] (fun x35 w =>
 andP (fun w => andP (fun w => load1W x33 (fun v w => eqP v x34 w) w) (fun w => andP (fun w => load1W x31 (fun v w => eqP v x32 w) w) (fun w => andP (fun w => load1W x28 (fun v w => eqP v x29 w) w) (fun w => andP (fun w => load1W x26 (fun v w => eqP v x27 w) w) (fun w => andP (fun w => load1W x24 (fun v w => eqP v x25 w) w) (fun w => andP (fun w => trueP w) (fun w => andP (fun w => trueP w) (fun w => andP (fun w => trueP w) (fun w => andP (fun w => trueP w) (fun w => andP (fun w => trueP w) (fun w => trueP w) w) w) w) w) w) w) w) w) w) w) (fun w =>
 CP Tryz.prog Fn.ref23_NewCommit [x25, x27, x30, x7, x8, x32, x34] (fun x36 w =>
 andP (fun w => andP (fun w => trueP w) (fun w => andP (fun w => trueP w) (fun w => andP (fun w => trueP w) (fun w => andP (fun w => trueP w) (fun w => andP (fun w => trueP w) (fun w => trueP w) w) w) w) w) w) (fun w =>
 eqNilW .eql x35 (Value.pointer none) (fun x37 w =>
 condP x37 (fun w => K (Value.bool false) w) (fun w => loopW1 (Value.int .i64 0) (fun J1 x38 w =>
 lenW a1 (fun x39 w =>
 binIntW .leq x38 x39 (fun x40 w =>
 gW x40 true (fun K w => K x38 w) (fun x41 w =>
 gW x40 true (fun K w => binIntW .lss x41 (Value.int .i64 60) K w) (fun x42 w =>
 pickW x40 x42 (Value.bool false) (fun x43 w =>
 condP x43 (fun w => CP Tryz.prog Fn.commit_Commit_Next [x35] (fun x44 w =>
 extractW 0 x44 (fun x45 w =>
 extractW 1 x44 (fun x46 w =>
 newW #[(Value.int .i64 0), (Value.int .i64 0), (Value.int .u64 0), (Value.int .u64 0), (Value.int .u64 0), (Value.bool false), (Value.int .i64 0), (Value.int .u64 0), (Value.bool false), (Value.int .i64 0)] (fun x47 w =>
 storeW 10 x47 x45 (fun _ w =>
 buildW [(Value.int .i64 0), (Value.int .i64 0), (Value.int .u64 0), (Value.int .u64 0), (Value.int .u64 0), (Value.bool false), (Value.int .i64 0), (Value.int .u64 0), (Value.bool false), (Value.int .i64 0)] [] (fun x49 w =>
 newW #[(Value.int .i64 0), (Value.int .i64 0), (Value.int .u64 0), (Value.int .u64 0), (Value.int .u64 0), (Value.bool false), (Value.int .i64 0), (Value.int .u64 0), (Value.bool false), (Value.int .i64 0)] (fun x50 w =>
 storeW 10 x50 x49 (fun _ w =>
 nilW x36 (fun x52 w =>
 addW 0 x52 (fun x53 w =>
 addW 2 x53 (fun x54 w =>
 load1W x54 (fun x55 w =>
 binIntW .eql x55 (Value.int .i64 0) (fun x56 w =>
 joinW0 (fun  w =>
 drewW (fun w => nilW x36 (fun x57 w =>
 addW 0 x57 (fun x58 w =>
 addW 2 x58 (fun x59 w =>
 load1W x59 (fun x60 w =>
 binIntW .eql x60 (Value.int .i64 0) (fun x61 w =>
 binBoolW .neq x46 x61 (fun x62 w =>
 gW x62 false (fun K w => loadNW 10 x47 K w) (fun x63 w =>
 gW x62 false (fun K w => loadNW 10 x50 K w) (fun x64 w =>
 gW x62 false (fun K w => eqAggW [.i .i64, .i .i64, .i .u64, .i .u64, .i .u64, .b, .i .i64, .i .u64, .b, .i .i64] .neq x63 x64 K w) (fun x65 w =>
 pickW x62 (Value.bool true) x65 (fun x66 w =>
 gW x66 false (fun K w => K x35 w) (fun x67 w =>
 gW x66 false (fun K w => K x36 w) (fun x68 w =>
 gW x66 false (fun K w => nilW x68 K w) (fun x69 w =>
 gW x66 false (fun K w => addW 0 x69 K w) (fun x70 w =>
 gW x66 false (fun K w => addW 2 x70 K w) (fun x71 w =>
 gW x66 false (fun K w => load1W x71 K w) (fun x72 w =>
 gW x66 false (fun K w => CP Tryz.prog Fn.commit_Commit_End [x67] K w) (fun x73 w =>
 andP (fun w => andP (fun w => gW x66 false (fun K w => load1W x71 K w) (fun v w => eqP v x72 w) w) (fun w => andP (fun w => trueP w) (fun w => andP (fun w => trueP w) (fun w => andP (fun w => trueP w) (fun w => trueP w) w) w) w) w) (fun w =>
 gW x66 false (fun K w => binIntW .neq x73 x72 K w) (fun x74 w =>
 pickW x66 (Value.bool true) x74 (fun x75 w =>
 gW x75 false (fun K w => K x35 w) (fun x76 w =>
 gW x75 false (fun K w => K x36 w) (fun x77 w =>
 gW x75 false (fun K w => nilW x77 K w) (fun x78 w =>
 gW x75 false (fun K w => addW 0 x78 K w) (fun x79 w =>
 gW x75 false (fun K w => addW 3 x79 K w) (fun x80 w =>
 gW x75 false (fun K w => load1W x80 K w) (fun x81 w =>
 gW x75 false (fun K w => CP Tryz.prog Fn.commit_Commit_Err [x76] K w) (fun x82 w =>
 andP (fun w => andP (fun w => gW x75 false (fun K w => load1W x80 K w) (fun v w => eqP v x81 w) w) (fun w => andP (fun w => trueP w) (fun w => trueP w) w) w) (fun w =>
 gW x75 false (fun K w => binIntW .neq x82 x81 K w) (fun x83 w =>
 pickW x75 (Value.bool true) x83 (fun x84 w =>
 gW x84 false (fun K w => K x35 w) (fun x85 w =>
 gW x84 false (fun K w => K x36 w) (fun x86 w =>
 gW x84 false (fun K w => nilW x86 K w) (fun x87 w =>
 gW x84 false (fun K w => addW 0 x87 K w) (fun x88 w =>
 gW x84 false (fun K w => addW 4 x88 K w) (fun x89 w =>
 gW x84 false (fun K w => load1W x89 K w) (fun x90 w =>
 gW x84 false (fun K w => CP Tryz.prog Fn.commit_Commit_By [x85] K w) (fun x91 w =>
 andP (fun w => andP (fun w => gW x84 false (fun K w => load1W x89 K w) (fun v w => eqP v x90 w) w) (fun w => andP (fun w => trueP w) (fun w => trueP w) w) w) (fun w =>
 gW x84 false (fun K w => binIntW .neq x91 x90 K w) (fun x92 w =>
 pickW x84 (Value.bool true) x92 (fun x93 w =>
 condP x93 (fun w => K (Value.bool false) w) (fun w => lenW a1 (fun x94 w =>
 binIntW .lss x38 x94 (fun x95 w =>
 joinW0 (fun  w =>
 binIntW .add x38 (Value.int .i64 1) (fun x96 w =>
 J1 x96 w) w) (fun j2 w =>
 condP x95 (fun w => idxW 6 a1 x38 (fun x97 w =>
 loadNW 6 x97 (fun x98 w =>
 newW #[(Value.int .u64 0), (Value.int .u64 0), (Value.bool false), (Value.int .i64 0), (Value.bool false), (Value.int .i64 0)] (fun x99 w =>
 storeW 6 x99 x98 (fun _ w =>
 binIntW .rem x38 (Value.int .i64 5) (fun x101 w =>
 binIntW .lss x101 (Value.int .i64 4) (fun x102 w =>
 joinW0 (fun  w =>
 binIntW .rem x38 (Value.int .i64 3) (fun x103 w =>
 binIntW .gtr x103 (Value.int .i64 0) (fun x104 w =>
 joinW0 (fun  w =>
 loadNW 6 x99 (fun x105 w =>
 CP Tryz.prog Fn.commit_Commit_Tell [x35, x105] (fun x106 w =>
 loadNW 6 x99 (fun x107 w =>
 CP Tryz.prog Fn.ref23_Commit_Tell [x36, x107] (fun x108 w =>
 j2  w) w) w) w) w) (fun j4 w =>
 condP x104 (fun w => addW 1 x99 (fun x109 w =>
 addW 0 x109 (fun x110 w =>
 load1W x110 (fun x111 w =>
 binIntW .rem x111 (Value.int .u64 2) (fun x112 w =>
 buildW [(Value.int .u64 0), (Value.bool false), (Value.int .i64 0)] [(0, 1, x112)] (fun x113 w =>
 addW 4 x99 (fun x114 w =>
 storeW 1 x114 (Value.bool true) (fun _ w =>
 addW 1 x99 (fun x116 w =>
 storeW 3 x116 x113 (fun _ w =>
 j4  w) w) w) w) w) w) w) w) w) w) (fun w => j4  w) w) w) w) w) (fun j3 w =>
 condP x102 (fun w => addW 5 x99 (fun x118 w =>
 storeW 1 x118 (Value.int .i64 0) (fun _ w =>
 j3  w) w) w) (fun w => j3  w) w) w) w) w) w) w) w) w) (fun w => j2  w) w) w) w) w) w) w) w) w) w) w) w) w) w) w) w) w) w) w) w) w) w) w) w) w) w) w) w) w) w) w) w) w) w) w) w) w) w) w) w) w) w) w) w) w) w) w) (fun j1 w =>
 condP x56 (fun w => CP Tryz.prog Fn.ref23_Commit_Next [x36] (fun x120 w =>
 storeW 10 x50 x120 (fun _ w =>
 j1  w) w) w) (fun w => j1  w) w) w) w) w) w) w) w) w) w) w) w) w) w) w) w) (fun w => K (Value.bool true) w) w) w) w) w) w) w) w) w) w) w) w) w) w) w) w) w) w) w) w) w) w) w) w) w) w) w) w) w) w) w) w) w) w) w) w) w) w) w) w) w) w) w) w) w) w) w) w) w) w

theorem Q_law25_CommitRaw (a0 a1 : Value) (K : KV) : S_law25_CommitRaw a0 a1 K = P_law25_CommitRaw a0 a1 K := by
  unfold S_law25_CommitRaw P_law25_CommitRaw
  generalize @CP = y_CP
  generalize @addW = y_addW
  generalize @andP = y_andP
  generalize @binBoolW = y_binBoolW
  generalize @binIntW = y_binIntW
  generalize @boxW = y_boxW
  generalize @buildW = y_buildW
  generalize @condP = y_condP
  generalize @convW = y_convW
  generalize @drewW = y_drewW
  generalize @eqAggW = y_eqAggW
  generalize @eqNilW = y_eqNilW
  generalize @eqP = y_eqP
  generalize @extractW = y_extractW
  generalize @gW = y_gW
  generalize @idxW = y_idxW
  generalize @joinW0 = y_joinW0
  generalize @lenW = y_lenW
  generalize @load1W = y_load1W
  generalize @loadNW = y_loadNW
  generalize @loopW1 = y_loopW1
  generalize @newW = y_newW
  generalize @nilW = y_nilW
  generalize @notW = y_notW
  generalize @pickW = y_pickW
  generalize @storeW = y_storeW
  rfl

/-- law25_CommitRuns -/
def P_law25_CommitRuns (K : KV) : World → Prop := fun w =>
 buildW [(Value.int .i64 0), (Value.int .i64 0), (Value.int .i64 0), (Value.int .i64 0), (Value.int .u64 0)] [(0, 1, (Value.int .i64 32)), (1, 1, (Value.int .i64 4)), (2, 1, (Value.int .i64 1)), (3, 1, (Value.int .i64 2)), (4, 1, (Value.int .u64 5))] (fun x1 w =>
 CP Tryz.prog Fn.mem_New [x1] (fun x2 w =>
 buildW [(Value.int .i64 0), (Value.int .u64 0)] [(0, 1, (Value.int .i64 9)), (1, 1, (Value.int .u64 7))] (fun x3 w =>
 buildSliceW [(Value.int .i64 0), (Value.int .u64 0)] 1 [(0, 2, x3)] (fun x4 w =>
 CP Tryz.prog Fn.commit_New [(Value.int .i64 0), (Value.int .i64 2), (Value.int .u64 5), (Value.slice none 0 0), x4, (Value.int .i64 4), (Value.int .i64 1)] (fun x5 w =>
 eqNilW .eql x2 (Value.pointer none) (fun x6 w =>
 gW x6 false (fun K w => K x5 w) (fun x7 w =>
 gW x6 false (fun K w => eqNilW .eql x7 (Value.pointer none) K w) (fun x8 w =>
 pickW x6 (Value.bool true) x8 (fun x9 w =>
 condP x9 (fun w => K (Value.bool false) w) (fun w => buildSliceW [(Value.int .i64 0)] 6 [(0, 1, (Value.int .i64 3)), (1, 1, (Value.int .i64 4)), (2, 1, (Value.int .i64 6)), (3, 1, (Value.int .i64 7)), (4, 1, (Value.int .i64 2)), (5, 1, (Value.int .i64 5))] (fun x10 w =>
 loopW1 (Value.int .i64 0) (fun J1 x11 w =>
 lenW x10 (fun x12 w =>
 binIntW .lss x11 x12 (fun x13 w =>
 condP x13 (fun w => CP Tryz.prog Fn.commit_Commit_Next [x5] (fun x14 w =>
 extractW 0 x14 (fun x15 w =>
 extractW 1 x14 (fun x16 w =>
 newW #[(Value.int .i64 0), (Value.int .i64 0), (Value.int .u64 0), (Value.int .u64 0), (Value.int .u64 0), (Value.bool false), (Value.int .i64 0), (Value.int .u64 0), (Value.bool false), (Value.int .i64 0)] (fun x17 w =>
 storeW 10 x17 x15 (fun _ w =>
 drewW (fun w => notW x16 (fun x19 w =>
 gW x19 false (fun K w => addW 0 x17 K w) (fun x20 w =>
 gW x19 false (fun K w => load1W x20 K w) (fun x21 w =>
 gW x19 false (fun K w => K x10 w) (fun x22 w =>
 gW x19 false (fun K w => K x11 w) (fun x23 w =>
 gW x19 false (fun K w => idxW 1 x22 x23 K w) (fun x24 w =>
 gW x19 false (fun K w => load1W x24 K w) (fun x25 w =>
 gW x19 false (fun K w => binIntW .neq x21 x25 K w) (fun x26 w =>
 pickW x19 (Value.bool true) x26 (fun x27 w =>
 gW x27 false (fun K w => K x5 w) (fun x28 w =>
 gW x27 false (fun K w => K x11 w) (fun x29 w =>
 gW x27 false (fun K w => binIntW .gtr x29 (Value.int .i64 3) K w) (fun x30 w =>
 gW x27 false (fun K w => CP Tryz.prog Fn.commit_Commit_Writing [x28] K w) (fun x31 w =>
 andP (fun w => andP (fun w => trueP w) (fun w => andP (fun w => trueP w) (fun w => trueP w) w) w) (fun w =>
 gW x27 false (fun K w => binBoolW .neq x31 x30 K w) (fun x32 w =>
 pickW x27 (Value.bool true) x32 (fun x33 w =>
 condP x33 (fun w => K (Value.bool false) w) (fun w => loadNW 10 x17 (fun x34 w =>
 CP Tryz.prog Fn.mem_Mem_Do [x2, x34] (fun x35 w =>
 CP Tryz.prog Fn.commit_Commit_Tell [x5, x35] (fun x36 w =>
 binIntW .add x11 (Value.int .i64 1) (fun x37 w =>
 J1 x37 w) w) w) w) w) w) w) w) w) w) w) w) w) w) w) w) w) w) w) w) w) w) w) w) w) w) w) w) (fun w => CP Tryz.prog Fn.mem_Mem_Locks [x2] (fun x38 w =>
 CP Tryz.prog Fn.mem_Mem_Words [x2] (fun x39 w =>
 CP Tryz.prog Fn.commit_Commit_End [x5] (fun x40 w =>
 binIntW .eql x40 (Value.int .i64 2) (fun x41 w =>
 gW x41 true (fun K w => K x5 w) (fun x42 w =>
 gW x41 true (fun K w => CP Tryz.prog Fn.commit_Commit_Stamp [x42] K w) (fun x43 w =>
 gW x41 true (fun K w => binIntW .eql x43 (Value.int .u64 6) K w) (fun x44 w =>
 pickW x41 x44 (Value.bool false) (fun x45 w =>
 gW x45 true (fun K w => K x38 w) (fun x46 w =>
 gW x45 true (fun K w => lenW x46 K w) (fun x47 w =>
 gW x45 true (fun K w => binIntW .eql x47 (Value.int .i64 4) K w) (fun x48 w =>
 pickW x45 x48 (Value.bool false) (fun x49 w =>
 gW x49 true (fun K w => K x38 w) (fun x50 w =>
 gW x49 true (fun K w => idxW 3 x50 (Value.int .i64 1) K w) (fun x51 w =>
 gW x49 true (fun K w => loadNW 3 x51 K w) (fun x52 w =>
 gW x49 true (fun K w => buildW [(Value.int .u64 0), (Value.bool false), (Value.int .i64 0)] [(0, 1, (Value.int .u64 6))] K w) (fun x53 w =>
 gW x49 true (fun K w => eqAggW [.i .u64, .b, .i .i64] .eql x52 x53 K w) (fun x54 w =>
 pickW x49 x54 (Value.bool false) (fun x55 w =>
 gW x55 true (fun K w => K x39 w) (fun x56 w =>
 gW x55 true (fun K w => lenW x56 K w) (fun x57 w =>
 gW x55 true (fun K w => binIntW .eql x57 (Value.int .i64 32) K w) (fun x58 w =>
 pickW x55 x58 (Value.bool false) (fun x59 w =>
 gW x59 true (fun K w => K x39 w) (fun x60 w =>
 gW x59 true (fun K w => idxW 1 x60 (Value.int .i64 9) K w) (fun x61 w =>
 gW x59 true (fun K w => load1W x61 K w) (fun x62 w =>
 gW x59 true (fun K w => binIntW .eql x62 (Value.int .u64 7) K w) (fun x63 w =>
 pickW x59 x63 (Value.bool false) (fun x64 w =>
 gW x64 true (fun K w => K x2 w) (fun x65 w =>
 gW x64 true (fun K w => CP Tryz.prog Fn.mem_Mem_Now [x65] K w) (fun x66 w =>
 gW x64 true (fun K w => binIntW .eql x66 (Value.int .u64 6) K w) (fun x67 w =>
 pickW x64 x67 (Value.bool false) (fun x68 w =>
 K x68 w) w) w) w) w) w) w) w) w) w) w) w) w) w) w) w) w) w) w) w) w) w) w) w) w) w) w) w) w) w) w) w) w) w) w) w) w) w) w) w) w) w) w) w) w) w) w

theorem Q_law25_CommitRuns (K : KV) : S_law25_CommitRuns K = P_law25_CommitRuns K := by
  unfold S_law25_CommitRuns P_law25_CommitRuns
  generalize @CP = y_CP
  generalize @addW = y_addW
  generalize @andP = y_andP
  generalize @binBoolW = y_binBoolW
  generalize @binIntW = y_binIntW
  generalize @buildSliceW = y_buildSliceW
  generalize @buildW = y_buildW
  generalize @condP = y_condP
  generalize @drewW = y_drewW
  generalize @eqAggW = y_eqAggW
  generalize @eqNilW = y_eqNilW
  generalize @extractW = y_extractW
  generalize @gW = y_gW
  generalize @idxW = y_idxW
  generalize @lenW = y_lenW
  generalize @load1W = y_load1W
  generalize @loadNW = y_loadNW
  generalize @loopW1 = y_loopW1
  generalize @newW = y_newW
  generalize @notW = y_notW
  generalize @pickW = y_pickW
  generalize @storeW = y_storeW
  rfl

/-- law25_Case_shape -/
def P_law25_Case_shape (a0 : Value) (K : KV) : World → Prop := fun w =>
 boxW a0 (fun x1 w =>
 newW #[(Value.int .i64 0), (Value.int .i64 0), (Value.int .i64 0), (Value.int .i64 0), (Value.int .u64 0)] (fun x2 w =>
 drewW (fun w => addW 7 x1 (fun x3 w =>
 load1W x3 (fun x4 w =>
 addW 8 x1 (fun x5 w =>
 load1W x5 (fun x6 w =>
 addW 6 x1 (fun x7 w =>
 load1W x7 (fun x8 w =>
 binIntW .rem x8 (Value.int .u64 6) (fun x9 w =>
 andP (fun w => CP Tryz.prog Fn.book_Within [x4, (Value.int .i64 1), (Value.int .i64 6)] (fun x10 w =>
 andP (fun w => andP (fun w => load1W x7 (fun v w => eqP v x8 w) w) (fun w => andP (fun w => load1W x5 (fun v w => eqP v x6 w) w) (fun w => andP (fun w => trueP w) (fun w => trueP w) w) w) w) (fun w =>
 andP (fun w => CP Tryz.prog Fn.book_Within [x6, (Value.int .i64 1), (Value.int .i64 3)] (fun x11 w =>
 andP (fun w => andP (fun w => load1W x7 (fun v w => eqP v x8 w) w) (fun w => andP (fun w => trueP w) (fun w => trueP w) w) w) (fun w =>
 buildW [(Value.int .i64 0), (Value.int .i64 0), (Value.int .i64 0), (Value.int .i64 0), (Value.int .u64 0)] [(0, 1, (Value.int .i64 40)), (1, 1, x10), (2, 1, x11), (3, 1, (Value.int .i64 4)), (4, 1, x9)] (fun x12 w =>
 andP (fun w => CP Tryz.prog Fn.ref1_Shape [x12] (fun x13 w =>
 andP (fun w => andP (fun w => trueP w) (fun w => trueP w) w) (fun w =>
 newW #[(Value.int .i64 0), (Value.int .i64 0), (Value.int .i64 0), (Value.int .i64 0), (Value.int .u64 0)] (fun x14 w =>
 andP (fun w => trueP w) (fun w =>
 storeW 5 x14 x13 (fun _ w =>
 andP (fun w => trueP w) (fun w =>
 addW 6 x1 (fun x16 w =>
 load1W x16 (fun x17 w =>
 binIntW .rem x17 (Value.int .u64 17) (fun x18 w =>
 binIntW .eql x18 (Value.int .u64 16) (fun x19 w =>
 joinW0 (fun  w =>
 loopW2 (Value.slice none 0 0) (Value.int .i64 0) (fun J1 x20 x21 w =>
 addW 3 x1 (fun x22 w =>
 load1W x22 (fun x23 w =>
 lenW x23 (fun x24 w =>
 binIntW .lss x21 x24 (fun x25 w =>
 gW x25 true (fun K w => K x21 w) (fun x26 w =>
 gW x25 true (fun K w => binIntW .lss x26 (Value.int .i64 6) K w) (fun x27 w =>
 pickW x25 x27 (Value.bool false) (fun x28 w =>
 condP x28 (fun w => drewW (fun w => addW 3 x1 (fun x29 w =>
 load1W x29 (fun x30 w =>
 idxW 2 x30 x21 (fun x31 w =>
 addW 0 x31 (fun x32 w =>
 load1W x32 (fun x33 w =>
 addW 1 x14 (fun x34 w =>
 load1W x34 (fun x35 w =>
 binIntW .sub x35 (Value.int .i64 1) (fun x36 w =>
 addW 3 x1 (fun x37 w =>
 load1W x37 (fun x38 w =>
 idxW 2 x38 x21 (fun x39 w =>
 addW 1 x39 (fun x40 w =>
 load1W x40 (fun x41 w =>
 binIntW .rem x41 (Value.int .u64 8) (fun x42 w =>
 binIntW .quo x42 (Value.int .u64 7) (fun x43 w =>
 CP Tryz.prog Fn.book_Within [x33, (Value.int .i64 0), x36] (fun x44 w =>
 andP (fun w => andP (fun w => load1W x40 (fun v w => eqP v x41 w) w) (fun w => andP (fun w => load1W x37 (fun v w => eqP v x38 w) w) (fun w => andP (fun w => trueP w) (fun w => andP (fun w => trueP w) (fun w => andP (fun w => trueP w) (fun w => trueP w) w) w) w) w) w) (fun w =>
 buildW [(Value.int .i64 0), (Value.int .u64 0)] [(0, 1, x44), (1, 1, x43)] (fun x45 w =>
 buildSliceW [(Value.int .i64 0), (Value.int .u64 0)] 1 [(0, 2, x45)] (fun x46 w =>
 andP (fun w => andP (fun w => trueP w) (fun w => andP (fun w => trueP w) (fun w => trueP w) w) w) (fun w =>
 appendW 2 16 x20 x46 (fun x47 w =>
 andP (fun w => trueP w) (fun w =>
 binIntW .add x21 (Value.int .i64 1) (fun x48 w =>
 J1 x47 x48 w) w) w) w) w) w) w) w) w) w) w) w) w) w) w) w) w) w) w) w) w) w) w) w) w) (fun w => loopW2 (Value.slice none 0 0) (Value.int .i64 0) (fun J2 x49 x50 w =>
 addW 4 x1 (fun x51 w =>
 load1W x51 (fun x52 w =>
 lenW x52 (fun x53 w =>
 binIntW .lss x50 x53 (fun x54 w =>
 gW x54 true (fun K w => K x50 w) (fun x55 w =>
 gW x54 true (fun K w => binIntW .lss x55 (Value.int .i64 6) K w) (fun x56 w =>
 pickW x54 x56 (Value.bool false) (fun x57 w =>
 condP x57 (fun w => drewW (fun w => addW 4 x1 (fun x58 w =>
 load1W x58 (fun x59 w =>
 idxW 2 x59 x50 (fun x60 w =>
 addW 0 x60 (fun x61 w =>
 load1W x61 (fun x62 w =>
 addW 4 x1 (fun x63 w =>
 load1W x63 (fun x64 w =>
 idxW 2 x64 x50 (fun x65 w =>
 addW 1 x65 (fun x66 w =>
 load1W x66 (fun x67 w =>
 CP Tryz.prog Fn.book_Within [x62, (Value.int .i64 1), (Value.int .i64 39)] (fun x68 w =>
 andP (fun w => andP (fun w => load1W x66 (fun v w => eqP v x67 w) w) (fun w => andP (fun w => load1W x63 (fun v w => eqP v x64 w) w) (fun w => andP (fun w => trueP w) (fun w => andP (fun w => trueP w) (fun w => trueP w) w) w) w) w) (fun w =>
 buildW [(Value.int .i64 0), (Value.int .u64 0)] [(0, 1, x68), (1, 1, x67)] (fun x69 w =>
 buildSliceW [(Value.int .i64 0), (Value.int .u64 0)] 1 [(0, 2, x69)] (fun x70 w =>
 andP (fun w => andP (fun w => trueP w) (fun w => andP (fun w => trueP w) (fun w => trueP w) w) w) (fun w =>
 appendW 2 16 x49 x70 (fun x71 w =>
 andP (fun w => trueP w) (fun w =>
 binIntW .add x50 (Value.int .i64 1) (fun x72 w =>
 J2 x71 x72 w) w) w) w) w) w) w) w) w) w) w) w) w) w) w) w) w) w) w) w) (fun w => drewW (fun w => loadNW 5 x14 (fun x73 w =>
 addW 0 x1 (fun x74 w =>
 load1W x74 (fun x75 w =>
 addW 4 x14 (fun x76 w =>
 load1W x76 (fun x77 w =>
 addW 2 x1 (fun x78 w =>
 load1W x78 (fun x79 w =>
 CP Tryz.prog Fn.book_Within [x75, (Value.int .i64 0), (Value.int .i64 3)] (fun x80 w =>
 andP (fun w => andP (fun w => load1W x78 (fun v w => eqP v x79 w) w) (fun w => andP (fun w => load1W x76 (fun v w => eqP v x77 w) w) (fun w => andP (fun w => trueP w) (fun w => andP (fun w => loadNW 5 x14 (fun v w => eqP v x73 w) w) (fun w => trueP w) w) w) w) w) (fun w =>
 CP Tryz.prog Fn.book_Within [x79, (Value.int .i64 0), (Value.int .i64 4)] (fun x81 w =>
 andP (fun w => andP (fun w => trueP w) (fun w => andP (fun w => load1W x76 (fun v w => eqP v x77 w) w) (fun w => andP (fun w => loadNW 5 x14 (fun v w => eqP v x73 w) w) (fun w => trueP w) w) w) w) (fun w =>
 binIntW .quo x81 (Value.int .i64 3) (fun x82 w =>
 convW .u64 x82 (fun x83 w =>
 binIntW .sub x77 x83 (fun x84 w =>
 storeW 5 x2 x73 (fun _ w =>
 andP (fun w => andP (fun w => load1W x76 (fun v w => eqP v x77 w) w) (fun w => andP (fun w => trueP w) (fun w => trueP w) w) w) (fun w =>
 loadNW 5 x2 (fun x86 w =>
 K (Value.tuple #[x86, x20, x49, x80, x84]) w) w) w) w) w) w) w) w) w) w) w) w) w) w) w) w) w) w) w) w) w) w) w) w) w) w) w) w) w) w) w) w) w) w) w) w) w) (fun j1 w =>
 condP x19 (fun w => addW 6 x1 (fun x87 w =>
 load1W x87 (fun x88 w =>
 binIntW .rem x88 (Value.int .u64 3) (fun x89 w =>
 binIntW .sub (Value.int .u64 4611686018427387903) x89 (fun x90 w =>
 addW 4 x14 (fun x91 w =>
 storeW 1 x91 x90 (fun _ w =>
 j1  w) w) w) w) w) w) w) (fun w => j1  w) w) w) w) w) w) w) w) w) w) w) w) w) (fun w => newW #[(Value.int .i64 0), (Value.int .i64 0), (Value.int .i64 0), (Value.int .i64 0), (Value.int .u64 0)] (fun x93 w =>
 andP (fun w => andP (fun w => load1W x7 (fun v w => eqP v x8 w) w) (fun w => trueP w) w) (fun w =>
 CP Tryz.prog Fn.ref1_Shape [x12] (fun x94 w =>
 andP (fun w => andP (fun w => trueP w) (fun w => trueP w) w) (fun w =>
 storeW 5 x93 x94 (fun _ w =>
 andP (fun w => trueP w) (fun w =>
 addW 6 x1 (fun x96 w =>
 load1W x96 (fun x97 w =>
 binIntW .rem x97 (Value.int .u64 17) (fun x98 w =>
 binIntW .eql x98 (Value.int .u64 16) (fun x99 w =>
 joinW0 (fun  w =>
 loopW2 (Value.slice none 0 0) (Value.int .i64 0) (fun J3 x100 x101 w =>
 addW 3 x1 (fun x102 w =>
 load1W x102 (fun x103 w =>
 lenW x103 (fun x104 w =>
 binIntW .lss x101 x104 (fun x105 w =>
 gW x105 true (fun K w => K x101 w) (fun x106 w =>
 gW x105 true (fun K w => binIntW .lss x106 (Value.int .i64 6) K w) (fun x107 w =>
 pickW x105 x107 (Value.bool false) (fun x108 w =>
 condP x108 (fun w => drewW (fun w => addW 3 x1 (fun x109 w =>
 load1W x109 (fun x110 w =>
 idxW 2 x110 x101 (fun x111 w =>
 addW 0 x111 (fun x112 w =>
 load1W x112 (fun x113 w =>
 addW 1 x93 (fun x114 w =>
 load1W x114 (fun x115 w =>
 binIntW .sub x115 (Value.int .i64 1) (fun x116 w =>
 addW 3 x1 (fun x117 w =>
 load1W x117 (fun x118 w =>
 idxW 2 x118 x101 (fun x119 w =>
 addW 1 x119 (fun x120 w =>
 load1W x120 (fun x121 w =>
 binIntW .rem x121 (Value.int .u64 8) (fun x122 w =>
 binIntW .quo x122 (Value.int .u64 7) (fun x123 w =>
 CP Tryz.prog Fn.book_Within [x113, (Value.int .i64 0), x116] (fun x124 w =>
 andP (fun w => andP (fun w => load1W x120 (fun v w => eqP v x121 w) w) (fun w => andP (fun w => load1W x117 (fun v w => eqP v x118 w) w) (fun w => andP (fun w => trueP w) (fun w => andP (fun w => trueP w) (fun w => andP (fun w => trueP w) (fun w => trueP w) w) w) w) w) w) (fun w =>
 buildW [(Value.int .i64 0), (Value.int .u64 0)] [(0, 1, x124), (1, 1, x123)] (fun x125 w =>
 buildSliceW [(Value.int .i64 0), (Value.int .u64 0)] 1 [(0, 2, x125)] (fun x126 w =>
 andP (fun w => andP (fun w => trueP w) (fun w => andP (fun w => trueP w) (fun w => trueP w) w) w) (fun w =>
 appendW 2 16 x100 x126 (fun x127 w =>
 andP (fun w => trueP w) (fun w =>
 binIntW .add x101 (Value.int .i64 1) (fun x128 w =>
 J3 x127 x128 w) w) w) w) w) w) w) w) w) w) w) w) w) w) w) w) w) w) w) w) w) w) w) w) w) (fun w => loopW2 (Value.slice none 0 0) (Value.int .i64 0) (fun J4 x129 x130 w =>
 addW 4 x1 (fun x131 w =>
 load1W x131 (fun x132 w =>
 lenW x132 (fun x133 w =>
 binIntW .lss x130 x133 (fun x134 w =>
 gW x134 true (fun K w => K x130 w) (fun x135 w =>
 gW x134 true (fun K w => binIntW .lss x135 (Value.int .i64 6) K w) (fun x136 w =>
 pickW x134 x136 (Value.bool false) (fun x137 w =>
 condP x137 (fun w => drewW (fun w => addW 4 x1 (fun x138 w =>
 load1W x138 (fun x139 w =>
 idxW 2 x139 x130 (fun x140 w =>
 addW 0 x140 (fun x141 w =>
 load1W x141 (fun x142 w =>
 addW 4 x1 (fun x143 w =>
 load1W x143 (fun x144 w =>
 idxW 2 x144 x130 (fun x145 w =>
 addW 1 x145 (fun x146 w =>
 load1W x146 (fun x147 w =>
 CP Tryz.prog Fn.book_Within [x142, (Value.int .i64 1), (Value.int .i64 39)] (fun x148 w =>
 andP (fun w => andP (fun w => load1W x146 (fun v w => eqP v x147 w) w) (fun w => andP (fun w => load1W x143 (fun v w => eqP v x144 w) w) (fun w => andP (fun w => trueP w) (fun w => andP (fun w => trueP w) (fun w => trueP w) w) w) w) w) (fun w =>
 buildW [(Value.int .i64 0), (Value.int .u64 0)] [(0, 1, x148), (1, 1, x147)] (fun x149 w =>
 buildSliceW [(Value.int .i64 0), (Value.int .u64 0)] 1 [(0, 2, x149)] (fun x150 w =>
 andP (fun w => andP (fun w => trueP w) (fun w => andP (fun w => trueP w) (fun w => trueP w) w) w) (fun w =>
 appendW 2 16 x129 x150 (fun x151 w =>
 andP (fun w => trueP w) (fun w =>
 binIntW .add x130 (Value.int .i64 1) (fun x152 w =>
 J4 x151 x152 w) w) w) w) w) w) w) w) w) w) w) w) w) w) w) w) w) w) w) w) (fun w => drewW (fun w => loadNW 5 x93 (fun x153 w =>
 addW 0 x1 (fun x154 w =>
 load1W x154 (fun x155 w =>
 addW 4 x93 (fun x156 w =>
 load1W x156 (fun x157 w =>
 addW 2 x1 (fun x158 w =>
 load1W x158 (fun x159 w =>
 CP Tryz.prog Fn.book_Within [x155, (Value.int .i64 0), (Value.int .i64 3)] (fun x160 w =>
 andP (fun w => andP (fun w => load1W x158 (fun v w => eqP v x159 w) w) (fun w => andP (fun w => load1W x156 (fun v w => eqP v x157 w) w) (fun w => andP (fun w => trueP w) (fun w => andP (fun w => loadNW 5 x93 (fun v w => eqP v x153 w) w) (fun w => trueP w) w) w) w) w) (fun w =>
 CP Tryz.prog Fn.book_Within [x159, (Value.int .i64 0), (Value.int .i64 4)] (fun x161 w =>
 andP (fun w => andP (fun w => trueP w) (fun w => andP (fun w => load1W x156 (fun v w => eqP v x157 w) w) (fun w => andP (fun w => loadNW 5 x93 (fun v w => eqP v x153 w) w) (fun w => trueP w) w) w) w) (fun w =>
 binIntW .quo x161 (Value.int .i64 3) (fun x162 w =>
 convW .u64 x162 (fun x163 w =>
 binIntW .sub x157 x163 (fun x164 w =>
 storeW 5 x2 x153 (fun _ w =>
 andP (fun w => andP (fun w => load1W x156 (fun v w => eqP v x157 w) w) (fun w => andP (fun w => trueP w) (fun w => trueP w) w) w) (fun w =>
 loadNW 5 x2 (fun x166 w =>
 K (Value.tuple #[x166, x100, x129, x160, x164]) w) w) w) w) w) w) w) w) w) w) w) w) w) w) w) w) w) w) w) w) w) w) w) w) w) w) w) w) w) w) w) w) w) w) w) w) w) (fun j2 w =>
 condP x99 (fun w => addW 6 x1 (fun x167 w =>
 load1W x167 (fun x168 w =>
 binIntW .rem x168 (Value.int .u64 3) (fun x169 w =>
 binIntW .sub (Value.int .u64 4611686018427387903) x169 (fun x170 w =>
 addW 4 x93 (fun x171 w =>
 storeW 1 x171 x170 (fun _ w =>
 j2  w) w) w) w) w) w) w) (fun w => j2  w) w) w) w) w) w) w) w) w) w) w) w) w) w) w) w) w) (fun w => newW #[(Value.int .i64 0), (Value.int .i64 0), (Value.int .i64 0), (Value.int .i64 0), (Value.int .u64 0)] (fun x173 w =>
 andP (fun w => andP (fun w => load1W x7 (fun v w => eqP v x8 w) w) (fun w => andP (fun w => load1W x5 (fun v w => eqP v x6 w) w) (fun w => trueP w) w) w) (fun w =>
 CP Tryz.prog Fn.book_Within [x6, (Value.int .i64 1), (Value.int .i64 3)] (fun x174 w =>
 andP (fun w => andP (fun w => load1W x7 (fun v w => eqP v x8 w) w) (fun w => andP (fun w => trueP w) (fun w => trueP w) w) w) (fun w =>
 buildW [(Value.int .i64 0), (Value.int .i64 0), (Value.int .i64 0), (Value.int .i64 0), (Value.int .u64 0)] [(0, 1, (Value.int .i64 40)), (1, 1, x10), (2, 1, x174), (3, 1, (Value.int .i64 4)), (4, 1, x9)] (fun x175 w =>
 CP Tryz.prog Fn.ref1_Shape [x175] (fun x176 w =>
 andP (fun w => andP (fun w => trueP w) (fun w => trueP w) w) (fun w =>
 storeW 5 x173 x176 (fun _ w =>
 andP (fun w => trueP w) (fun w =>
 addW 6 x1 (fun x178 w =>
 load1W x178 (fun x179 w =>
 binIntW .rem x179 (Value.int .u64 17) (fun x180 w =>
 binIntW .eql x180 (Value.int .u64 16) (fun x181 w =>
 joinW0 (fun  w =>
 loopW2 (Value.slice none 0 0) (Value.int .i64 0) (fun J5 x182 x183 w =>
 addW 3 x1 (fun x184 w =>
 load1W x184 (fun x185 w =>
 lenW x185 (fun x186 w =>
 binIntW .lss x183 x186 (fun x187 w =>
 gW x187 true (fun K w => K x183 w) (fun x188 w =>
 gW x187 true (fun K w => binIntW .lss x188 (Value.int .i64 6) K w) (fun x189 w =>
 pickW x187 x189 (Value.bool false) (fun x190 w =>
 condP x190 (fun w => drewW (fun w => addW 3 x1 (fun x191 w =>
 load1W x191 (fun x192 w =>
 idxW 2 x192 x183 (fun x193 w =>
 addW 0 x193 (fun x194 w =>
 load1W x194 (fun x195 w =>
 addW 1 x173 (fun x196 w =>
 load1W x196 (fun x197 w =>
 binIntW .sub x197 (Value.int .i64 1) (fun x198 w =>
 addW 3 x1 (fun x199 w =>
 load1W x199 (fun x200 w =>
 idxW 2 x200 x183 (fun x201 w =>
 addW 1 x201 (fun x202 w =>
 load1W x202 (fun x203 w =>
 binIntW .rem x203 (Value.int .u64 8) (fun x204 w =>
 binIntW .quo x204 (Value.int .u64 7) (fun x205 w =>
 CP Tryz.prog Fn.book_Within [x195, (Value.int .i64 0), x198] (fun x206 w =>
 andP (fun w => andP (fun w => load1W x202 (fun v w => eqP v x203 w) w) (fun w => andP (fun w => load1W x199 (fun v w => eqP v x200 w) w) (fun w => andP (fun w => trueP w) (fun w => andP (fun w => trueP w) (fun w => andP (fun w => trueP w) (fun w => trueP w) w) w) w) w) w) (fun w =>
 buildW [(Value.int .i64 0), (Value.int .u64 0)] [(0, 1, x206), (1, 1, x205)] (fun x207 w =>
 buildSliceW [(Value.int .i64 0), (Value.int .u64 0)] 1 [(0, 2, x207)] (fun x208 w =>
 andP (fun w => andP (fun w => trueP w) (fun w => andP (fun w => trueP w) (fun w => trueP w) w) w) (fun w =>
 appendW 2 16 x182 x208 (fun x209 w =>
 andP (fun w => trueP w) (fun w =>
 binIntW .add x183 (Value.int .i64 1) (fun x210 w =>
 J5 x209 x210 w) w) w) w) w) w) w) w) w) w) w) w) w) w) w) w) w) w) w) w) w) w) w) w) w) (fun w => loopW2 (Value.slice none 0 0) (Value.int .i64 0) (fun J6 x211 x212 w =>
 addW 4 x1 (fun x213 w =>
 load1W x213 (fun x214 w =>
 lenW x214 (fun x215 w =>
 binIntW .lss x212 x215 (fun x216 w =>
 gW x216 true (fun K w => K x212 w) (fun x217 w =>
 gW x216 true (fun K w => binIntW .lss x217 (Value.int .i64 6) K w) (fun x218 w =>
 pickW x216 x218 (Value.bool false) (fun x219 w =>
 condP x219 (fun w => drewW (fun w => addW 4 x1 (fun x220 w =>
 load1W x220 (fun x221 w =>
 idxW 2 x221 x212 (fun x222 w =>
 addW 0 x222 (fun x223 w =>
 load1W x223 (fun x224 w =>
 addW 4 x1 (fun x225 w =>
 load1W x225 (fun x226 w =>
 idxW 2 x226 x212 (fun x227 w =>
 addW 1 x227 (fun x228 w =>
 load1W x228 (fun x229 w =>
 CP Tryz.prog Fn.book_Within [x224, (Value.int .i64 1), (Value.int .i64 39)] (fun x230 w =>
 andP (fun w => andP (fun w => load1W x228 (fun v w => eqP v x229 w) w) (fun w => andP (fun w => load1W x225 (fun v w => eqP v x226 w) w) (fun w => andP (fun w => trueP w) (fun w => andP (fun w => trueP w) (fun w => trueP w) w) w) w) w) (fun w =>
 buildW [(Value.int .i64 0), (Value.int .u64 0)] [(0, 1, x230), (1, 1, x229)] (fun x231 w =>
 buildSliceW [(Value.int .i64 0), (Value.int .u64 0)] 1 [(0, 2, x231)] (fun x232 w =>
 andP (fun w => andP (fun w => trueP w) (fun w => andP (fun w => trueP w) (fun w => trueP w) w) w) (fun w =>
 appendW 2 16 x211 x232 (fun x233 w =>
 andP (fun w => trueP w) (fun w =>
 binIntW .add x212 (Value.int .i64 1) (fun x234 w =>
 J6 x233 x234 w) w) w) w) w) w) w) w) w) w) w) w) w) w) w) w) w) w) w) w) (fun w => drewW (fun w => loadNW 5 x173 (fun x235 w =>
 addW 0 x1 (fun x236 w =>
 load1W x236 (fun x237 w =>
 addW 4 x173 (fun x238 w =>
 load1W x238 (fun x239 w =>
 addW 2 x1 (fun x240 w =>
 load1W x240 (fun x241 w =>
 CP Tryz.prog Fn.book_Within [x237, (Value.int .i64 0), (Value.int .i64 3)] (fun x242 w =>
 andP (fun w => andP (fun w => load1W x240 (fun v w => eqP v x241 w) w) (fun w => andP (fun w => load1W x238 (fun v w => eqP v x239 w) w) (fun w => andP (fun w => trueP w) (fun w => andP (fun w => loadNW 5 x173 (fun v w => eqP v x235 w) w) (fun w => trueP w) w) w) w) w) (fun w =>
 CP Tryz.prog Fn.book_Within [x241, (Value.int .i64 0), (Value.int .i64 4)] (fun x243 w =>
 andP (fun w => andP (fun w => trueP w) (fun w => andP (fun w => load1W x238 (fun v w => eqP v x239 w) w) (fun w => andP (fun w => loadNW 5 x173 (fun v w => eqP v x235 w) w) (fun w => trueP w) w) w) w) (fun w =>
 binIntW .quo x243 (Value.int .i64 3) (fun x244 w =>
 convW .u64 x244 (fun x245 w =>
 binIntW .sub x239 x245 (fun x246 w =>
 storeW 5 x2 x235 (fun _ w =>
 andP (fun w => andP (fun w => load1W x238 (fun v w => eqP v x239 w) w) (fun w => andP (fun w => trueP w) (fun w => trueP w) w) w) (fun w =>
 loadNW 5 x2 (fun x248 w =>
 K (Value.tuple #[x248, x182, x211, x242, x246]) w) w) w) w) w) w) w) w) w) w) w) w) w) w) w) w) w) w) w) w) w) w) w) w) w) w) w) w) w) w) w) w) w) w) w) w) w) (fun j3 w =>
 condP x181 (fun w => addW 6 x1 (fun x249 w =>
 load1W x249 (fun x250 w =>
 binIntW .rem x250 (Value.int .u64 3) (fun x251 w =>
 binIntW .sub (Value.int .u64 4611686018427387903) x251 (fun x252 w =>
 addW 4 x173 (fun x253 w =>
 storeW 1 x253 x252 (fun _ w =>
 j3  w) w) w) w) w) w) w) (fun w => j3  w) w) w) w) w) w) w) w) w) w) w) w) w) w) w) w) w) w) w) (fun w => newW #[(Value.int .i64 0), (Value.int .i64 0), (Value.int .i64 0), (Value.int .i64 0), (Value.int .u64 0)] (fun x255 w =>
 andP (fun w => andP (fun w => load1W x7 (fun v w => eqP v x8 w) w) (fun w => andP (fun w => load1W x5 (fun v w => eqP v x6 w) w) (fun w => andP (fun w => load1W x3 (fun v w => eqP v x4 w) w) (fun w => trueP w) w) w) w) (fun w =>
 CP Tryz.prog Fn.book_Within [x4, (Value.int .i64 1), (Value.int .i64 6)] (fun x256 w =>
 andP (fun w => andP (fun w => load1W x7 (fun v w => eqP v x8 w) w) (fun w => andP (fun w => load1W x5 (fun v w => eqP v x6 w) w) (fun w => andP (fun w => trueP w) (fun w => trueP w) w) w) w) (fun w =>
 CP Tryz.prog Fn.book_Within [x6, (Value.int .i64 1), (Value.int .i64 3)] (fun x257 w =>
 andP (fun w => andP (fun w => load1W x7 (fun v w => eqP v x8 w) w) (fun w => andP (fun w => trueP w) (fun w => trueP w) w) w) (fun w =>
 buildW [(Value.int .i64 0), (Value.int .i64 0), (Value.int .i64 0), (Value.int .i64 0), (Value.int .u64 0)] [(0, 1, (Value.int .i64 40)), (1, 1, x256), (2, 1, x257), (3, 1, (Value.int .i64 4)), (4, 1, x9)] (fun x258 w =>
 CP Tryz.prog Fn.ref1_Shape [x258] (fun x259 w =>
 andP (fun w => andP (fun w => trueP w) (fun w => trueP w) w) (fun w =>
 storeW 5 x255 x259 (fun _ w =>
 andP (fun w => trueP w) (fun w =>
 addW 6 x1 (fun x261 w =>
 load1W x261 (fun x262 w =>
 binIntW .rem x262 (Value.int .u64 17) (fun x263 w =>
 binIntW .eql x263 (Value.int .u64 16) (fun x264 w =>
 joinW0 (fun  w =>
 loopW2 (Value.slice none 0 0) (Value.int .i64 0) (fun J7 x265 x266 w =>
 addW 3 x1 (fun x267 w =>
 load1W x267 (fun x268 w =>
 lenW x268 (fun x269 w =>
 binIntW .lss x266 x269 (fun x270 w =>
 gW x270 true (fun K w => K x266 w) (fun x271 w =>
 gW x270 true (fun K w => binIntW .lss x271 (Value.int .i64 6) K w) (fun x272 w =>
 pickW x270 x272 (Value.bool false) (fun x273 w =>
 condP x273 (fun w => drewW (fun w => addW 3 x1 (fun x274 w =>
 load1W x274 (fun x275 w =>
 idxW 2 x275 x266 (fun x276 w =>
 addW 0 x276 (fun x277 w =>
 load1W x277 (fun x278 w =>
 addW 1 x255 (fun x279 w =>
 load1W x279 (fun x280 w =>
 binIntW .sub x280 (Value.int .i64 1) (fun x281 w =>
 addW 3 x1 (fun x282 w =>
 load1W x282 (fun x283 w =>
 idxW 2 x283 x266 (fun x284 w =>
 addW 1 x284 (fun x285 w =>
 load1W x285 (fun x286 w =>
 binIntW .rem x286 (Value.int .u64 8) (fun x287 w =>
 binIntW .quo x287 (Value.int .u64 7) (fun x288 w =>
 CP Tryz.prog Fn.book_Within [x278, (Value.int .i64 0), x281] (fun x289 w =>
 andP (fun w => andP (fun w => load1W x285 (fun v w => eqP v x286 w) w) (fun w => andP (fun w => load1W x282 (fun v w => eqP v x283 w) w) (fun w => andP (fun w => trueP w) (fun w => andP (fun w => trueP w) (fun w => andP (fun w => trueP w) (fun w => trueP w) w) w) w) w) w) (fun w =>
 buildW [(Value.int .i64 0), (Value.int .u64 0)] [(0, 1, x289), (1, 1, x288)] (fun x290 w =>
 buildSliceW [(Value.int .i64 0), (Value.int .u64 0)] 1 [(0, 2, x290)] (fun x291 w =>
 andP (fun w => andP (fun w => trueP w) (fun w => andP (fun w => trueP w) (fun w => trueP w) w) w) (fun w =>
 appendW 2 16 x265 x291 (fun x292 w =>
 andP (fun w => trueP w) (fun w =>
 binIntW .add x266 (Value.int .i64 1) (fun x293 w =>
 J7 x292 x293 w) w) w) w) w) w) w) w) w) w) w) w) w) w) w) w) w) w) w) w) w) w) w) w) w) (fun w => loopW2 (Value.slice none 0 0) (Value.int .i64 0) (fun J8 x294 x295 w =>
 addW 4 x1 (fun x296 w =>
 load1W x296 (fun x297 w =>
 lenW x297 (fun x298 w =>
 binIntW .lss x295 x298 (fun x299 w =>
 gW x299 true (fun K w => K x295 w) (fun x300 w =>
 gW x299 true (fun K w => binIntW .lss x300 (Value.int .i64 6) K w) (fun x301 w =>
 pickW x299 x301 (Value.bool false) (fun x302 w =>
 condP x302 (fun w => drewW (fun w => addW 4 x1 (fun x303 w =>
 load1W x303 (fun x304 w =>
 idxW 2 x304 x295 (fun x305 w =>
 addW 0 x305 (fun x306 w =>
 load1W x306 (fun x307 w =>
 addW 4 x1 (fun x308 w =>
 load1W x308 (fun x309 w =>
 idxW 2 x309 x295 (fun x310 w =>
 addW 1 x310 (fun x311 w =>
 load1W x311 (fun x312 w =>
 CP Tryz.prog Fn.book_Within [x307, (Value.int .i64 1), (Value.int .i64 39)] (fun x313 w =>
 andP (fun w => andP (fun w => load1W x311 (fun v w => eqP v x312 w) w) (fun w => andP (fun w => load1W x308 (fun v w => eqP v x309 w) w) (fun w => andP (fun w => trueP w) (fun w => andP (fun w => trueP w) (fun w => trueP w) w) w) w) w) (fun w =>
 buildW [(Value.int .i64 0), (Value.int .u64 0)] [(0, 1, x313), (1, 1, x312)] (fun x314 w =>
 buildSliceW [(Value.int .i64 0), (Value.int .u64 0)] 1 [(0, 2, x314)] (fun x315 w =>
 andP (fun w => andP (fun w => trueP w) (fun w => andP (fun w => trueP w) (fun w => trueP w) w) w) (fun w =>
 appendW 2 16 x294 x315 (fun x316 w =>
 andP (fun w => trueP w) (fun w =>
 binIntW .add x295 (Value.int .i64 1) (fun x317 w =>
 J8 x316 x317 w) w) w) w) w) w) w) w) w) w) w) w) w) w) w) w) w) w) w) w) (fun w => drewW (fun w => loadNW 5 x255 (fun x318 w =>
 addW 0 x1 (fun x319 w =>
 load1W x319 (fun x320 w =>
 addW 4 x255 (fun x321 w =>
 load1W x321 (fun x322 w =>
 addW 2 x1 (fun x323 w =>
 load1W x323 (fun x324 w =>
 CP Tryz.prog Fn.book_Within [x320, (Value.int .i64 0), (Value.int .i64 3)] (fun x325 w =>
 andP (fun w => andP (fun w => load1W x323 (fun v w => eqP v x324 w) w) (fun w => andP (fun w => load1W x321 (fun v w => eqP v x322 w) w) (fun w => andP (fun w => trueP w) (fun w => andP (fun w => loadNW 5 x255 (fun v w => eqP v x318 w) w) (fun w => trueP w) w) w) w) w) (fun w =>
 CP Tryz.prog Fn.book_Within [x324, (Value.int .i64 0), (Value.int .i64 4)] (fun x326 w =>
 andP (fun w => andP (fun w => trueP w) (fun w => andP (fun w => load1W x321 (fun v w => eqP v x322 w) w) (fun w => andP (fun w => loadNW 5 x255 (fun v w => eqP v x318 w) w) (fun w => trueP w) w) w) w) (fun w =>
 binIntW .quo x326 (Value.int .i64 3) (fun x327 w =>
 convW .u64 x327 (fun x328 w =>
 binIntW .sub x322 x328 (fun x329 w =>
 storeW 5 x2 x318 (fun _ w =>
 andP (fun w => andP (fun w => load1W x321 (fun v w => eqP v x322 w) w) (fun w => andP (fun w => trueP w) (fun w => trueP w) w) w) (fun w =>
 loadNW 5 x2 (fun x331 w =>
 K (Value.tuple #[x331, x265, x294, x325, x329]) w) w) w) w) w) w) w) w) w) w) w) w) w) w) w) w) w) w) w) w) w) w) w) w) w) w) w) w) w) w) w) w) w) w) w) w) w) (fun j4 w =>
 condP x264 (fun w => addW 6 x1 (fun x332 w =>
 load1W x332 (fun x333 w =>
 binIntW .rem x333 (Value.int .u64 3) (fun x334 w =>
 binIntW .sub (Value.int .u64 4611686018427387903) x334 (fun x335 w =>
 addW 4 x255 (fun x336 w =>
 storeW 1 x336 x335 (fun _ w =>
 j4  w) w) w) w) w) w) w) (fun w => j4  w) w) w) w) w) w) w) w) w) w) w) w) w) w) w) w) w) w) w) w) w) w) w) w) w) w) w) w) w

theorem Q_law25_Case_shape (a0 : Value) (K : KV) : S_law25_Case_shape a0 K = P_law25_Case_shape a0 K := by
  unfold S_law25_Case_shape P_law25_Case_shape
  generalize @CP = y_CP
  generalize @addW = y_addW
  generalize @andP = y_andP
  generalize @appendW = y_appendW
  generalize @binIntW = y_binIntW
  generalize @boxW = y_boxW
  generalize @buildSliceW = y_buildSliceW
  generalize @buildW = y_buildW
  generalize @condP = y_condP
  generalize @convW = y_convW
  generalize @drewW = y_drewW
  generalize @eqP = y_eqP
  generalize @gW = y_gW
  generalize @idxW = y_idxW
  generalize @joinW0 = y_joinW0
  generalize @lenW = y_lenW
  generalize @load1W = y_load1W
  generalize @loadNW = y_loadNW
  generalize @loopW2 = y_loopW2
  generalize @newW = y_newW
  generalize @pickW = y_pickW
  generalize @storeW = y_storeW
  rfl

/-- commit_New -/
def P_commit_New (a0 a1 a2 a3 a4 a5 a6 : Value) (K : KV) : World → Prop := fun w =>
 CP Tryz.prog Fn.patience_New [a0, a1] (fun x1 w =>
 CP Tryz.prog Fn.slices_Clone_api_Seen_api_Seen [a3] (fun x2 w =>
 CP Tryz.prog Fn.slices_Clone_api_Cell_api_Cell [a4] (fun x3 w =>
 CP Tryz.prog Fn.writes_Stripes [a4, a5, a6] (fun x4 w =>
 buildW [(Value.int .i64 0), (Value.int .i64 0), (Value.int .i64 0), (Value.int .i64 0), (Value.int .i64 0), (Value.int .i64 0), (Value.int .u64 0), (Value.slice none 0 0), (Value.slice none 0 0), (Value.slice none 0 0), (Value.slice none 0 0), (Value.int .i64 0), (Value.int .i64 0), (Value.int .u64 0), (Value.bool false), (Value.int .i64 0), (Value.int .u64 0), (Value.bool false), (Value.int .i64 0), (Value.int .i64 0), (Value.int .i64 0)] [(0, 5, x1), (5, 1, a0), (6, 1, a2), (7, 1, x2), (8, 1, x3), (9, 1, x4)] (fun x5 w =>
 boxW x5 (fun x6 w =>
 CP Tryz.prog Fn.commit_Commit_more [x6] (fun x7 w =>
 K x6 w) w) w) w) w) w) w) w

theorem Q_commit_New (a0 a1 a2 a3 a4 a5 a6 : Value) (K : KV) : S_commit_New a0 a1 a2 a3 a4 a5 a6 K = P_commit_New a0 a1 a2 a3 a4 a5 a6 K := by
  unfold S_commit_New P_commit_New
  generalize @CP = y_CP
  generalize @boxW = y_boxW
  generalize @buildW = y_buildW
  rfl

/-- ref23_NewCommit -/
def P_ref23_NewCommit (a0 a1 a2 a3 a4 a5 a6 : Value) (K : KV) : World → Prop := fun w =>
 CP Tryz.prog Fn.ref23_begin [a0, a1] (fun x1 w =>
 appendW 2 16 (Value.slice none 0 0) a3 (fun x2 w =>
 appendW 2 16 (Value.slice none 0 0) a4 (fun x3 w =>
 buildW [(Value.int .i64 0), (Value.int .i64 0), (Value.int .i64 0), (Value.int .i64 0), (Value.int .i64 0), (Value.int .u64 0), (Value.slice none 0 0), (Value.slice none 0 0), (Value.slice none 0 0), (Value.slice none 0 0), (Value.int .u64 0), (Value.bool false), (Value.int .i64 0), (Value.int .i64 0), (Value.int .i64 0), (Value.int .u64 0), (Value.int .i64 0), (Value.int .i64 0), (Value.int .i64 0)] [(0, 5, x1), (5, 1, a2), (6, 1, x2), (7, 1, x3)] (fun x4 w =>
 boxW x4 (fun x5 w =>
 nilW x5 (fun x6 w =>
 addW 7 x6 (fun x7 w =>
 load1W x7 (fun x8 w =>
 CP Tryz.prog Fn.ref7_Stripes [x8, a5, a6] (fun x9 w =>
 nilW x5 (fun x10 w =>
 addW 8 x10 (fun x11 w =>
 storeW 1 x11 x9 (fun _ w =>
 nilW x5 (fun x13 w =>
 addW 8 x13 (fun x14 w =>
 load1W x14 (fun x15 w =>
 lenW x15 (fun x16 w =>
 binIntW .eql x16 (Value.int .i64 0) (fun x17 w =>
 joinW0 (fun  w =>
 K x5 w) (fun j1 w =>
 condP x17 (fun w => nilW x5 (fun x18 w =>
 addW 13 x18 (fun x19 w =>
 storeW 1 x19 (Value.int .i64 2) (fun _ w =>
 j1  w) w) w) w) (fun w => j1  w) w) w) w) w) w) w) w) w) w) w) w) w) w) w) w) w) w) w) w

theorem Q_ref23_NewCommit (a0 a1 a2 a3 a4 a5 a6 : Value) (K : KV) : S_ref23_NewCommit a0 a1 a2 a3 a4 a5 a6 K = P_ref23_NewCommit a0 a1 a2 a3 a4 a5 a6 K := by
  unfold S_ref23_NewCommit P_ref23_NewCommit
  generalize @CP = y_CP
  generalize @addW = y_addW
  generalize @appendW = y_appendW
  generalize @binIntW = y_binIntW
  generalize @boxW = y_boxW
  generalize @buildW = y_buildW
  generalize @condP = y_condP
  generalize @joinW0 = y_joinW0
  generalize @lenW = y_lenW
  generalize @load1W = y_load1W
  generalize @nilW = y_nilW
  generalize @storeW = y_storeW
  rfl

/-- commit_Commit_Next -/
def P_commit_Commit_Next (a0 : Value) (K : KV) : World → Prop := fun w =>
 newW #[(Value.int .i64 0), (Value.int .i64 0), (Value.int .u64 0), (Value.int .u64 0), (Value.int .u64 0), (Value.bool false), (Value.int .i64 0), (Value.int .u64 0), (Value.bool false), (Value.int .i64 0)] (fun x1 w =>
 nilW a0 (fun x2 w =>
 addW 0 x2 (fun x3 w =>
 CP Tryz.prog Fn.patience_Patience_End [x3] (fun x4 w =>
 binIntW .neq x4 (Value.int .i64 0) (fun x5 w =>
 condP x5 (fun w => buildW [(Value.int .i64 0), (Value.int .i64 0), (Value.int .u64 0), (Value.int .u64 0), (Value.int .u64 0), (Value.bool false), (Value.int .i64 0), (Value.int .u64 0), (Value.bool false), (Value.int .i64 0)] [] (fun x6 w =>
 storeW 10 x1 x6 (fun _ w =>
 loadNW 10 x1 (fun x8 w =>
 K (Value.tuple #[x8, (Value.bool false)]) w) w) w) w) (fun w => nilW a0 (fun x9 w =>
 addW 11 x9 (fun x10 w =>
 load1W x10 (fun x11 w =>
 binIntW .eql x11 (Value.int .i64 0) (fun x12 w =>
 condP x12 (fun w => drewW (fun w => nilW a0 (fun x13 w =>
 addW 9 x13 (fun x14 w =>
 load1W x14 (fun x15 w =>
 nilW a0 (fun x16 w =>
 addW 10 x16 (fun x17 w =>
 load1W x17 (fun x18 w =>
 lenW x18 (fun x19 w =>
 idxW 1 x15 x19 (fun x20 w =>
 load1W x20 (fun x21 w =>
 buildW [(Value.int .i64 0), (Value.int .i64 0), (Value.int .u64 0), (Value.int .u64 0), (Value.int .u64 0), (Value.bool false), (Value.int .i64 0), (Value.int .u64 0), (Value.bool false), (Value.int .i64 0)] [(0, 1, (Value.int .i64 3)), (1, 1, x21)] (fun x22 w =>
 storeW 10 x1 x22 (fun _ w =>
 andP (fun w => andP (fun w => trueP w) (fun w => andP (fun w => trueP w) (fun w => andP (fun w => trueP w) (fun w => trueP w) w) w) w) (fun w =>
 loadNW 10 x1 (fun x24 w =>
 K (Value.tuple #[x24, (Value.bool true)]) w) w) w) w) w) w) w) w) w) w) w) w) w) w) w) (fun w => binIntW .eql x11 (Value.int .i64 1) (fun x25 w =>
 condP x25 (fun w => drewW (fun w => nilW a0 (fun x26 w =>
 addW 13 x26 (fun x27 w =>
 addW 0 x27 (fun x28 w =>
 load1W x28 (fun x29 w =>
 nilW a0 (fun x30 w =>
 addW 5 x30 (fun x31 w =>
 load1W x31 (fun x32 w =>
 buildW [(Value.int .u64 0), (Value.bool false), (Value.int .i64 0)] [(0, 1, x29), (1, 1, (Value.bool true)), (2, 1, x32)] (fun x33 w =>
 newW #[(Value.int .u64 0), (Value.bool false), (Value.int .i64 0)] (fun x34 w =>
 andP (fun w => andP (fun w => load1W x31 (fun v w => eqP v x32 w) w) (fun w => andP (fun w => load1W x28 (fun v w => eqP v x29 w) w) (fun w => trueP w) w) w) (fun w =>
 storeW 3 x34 x33 (fun _ w =>
 andP (fun w => andP (fun w => trueP w) (fun w => andP (fun w => trueP w) (fun w => trueP w) w) w) (fun w =>
 drewW (fun w => nilW a0 (fun x36 w =>
 addW 9 x36 (fun x37 w =>
 load1W x37 (fun x38 w =>
 nilW a0 (fun x39 w =>
 addW 10 x39 (fun x40 w =>
 load1W x40 (fun x41 w =>
 lenW x41 (fun x42 w =>
 idxW 1 x38 x42 (fun x43 w =>
 load1W x43 (fun x44 w =>
 nilW a0 (fun x45 w =>
 addW 13 x45 (fun x46 w =>
 loadNW 3 x46 (fun x47 w =>
 loadNW 3 x34 (fun x48 w =>
 buildW [(Value.int .i64 0), (Value.int .i64 0), (Value.int .u64 0), (Value.int .u64 0), (Value.int .u64 0), (Value.bool false), (Value.int .i64 0), (Value.int .u64 0), (Value.bool false), (Value.int .i64 0)] [(0, 1, (Value.int .i64 4)), (1, 1, x44), (4, 3, x47), (7, 3, x48)] (fun x49 w =>
 storeW 10 x1 x49 (fun _ w =>
 andP (fun w => andP (fun w => trueP w) (fun w => andP (fun w => trueP w) (fun w => andP (fun w => trueP w) (fun w => andP (fun w => trueP w) (fun w => andP (fun w => trueP w) (fun w => trueP w) w) w) w) w) w) (fun w =>
 loadNW 10 x1 (fun x51 w =>
 K (Value.tuple #[x51, (Value.bool true)]) w) w) w) w) w) w) w) w) w) w) w) w) w) w) w) w) w) w) w) w) w) w) w) w) w) w) w) w) w) w) w) w) (fun w => binIntW .eql x11 (Value.int .i64 2) (fun x52 w =>
 condP x52 (fun w => buildW [(Value.int .i64 0), (Value.int .i64 0), (Value.int .u64 0), (Value.int .u64 0), (Value.int .u64 0), (Value.bool false), (Value.int .i64 0), (Value.int .u64 0), (Value.bool false), (Value.int .i64 0)] [(0, 1, (Value.int .i64 6))] (fun x53 w =>
 storeW 10 x1 x53 (fun _ w =>
 loadNW 10 x1 (fun x55 w =>
 K (Value.tuple #[x55, (Value.bool true)]) w) w) w) w) (fun w => binIntW .eql x11 (Value.int .i64 3) (fun x56 w =>
 condP x56 (fun w => drewW (fun w => nilW a0 (fun x57 w =>
 addW 16 x57 (fun x58 w =>
 load1W x58 (fun x59 w =>
 nilW a0 (fun x60 w =>
 addW 16 x60 (fun x61 w =>
 load1W x61 (fun x62 w =>
 binIntW .add x62 (Value.int .u64 1) (fun x63 w =>
 buildW [(Value.int .i64 0), (Value.int .i64 0), (Value.int .u64 0), (Value.int .u64 0), (Value.int .u64 0), (Value.bool false), (Value.int .i64 0), (Value.int .u64 0), (Value.bool false), (Value.int .i64 0)] [(0, 1, (Value.int .i64 7)), (2, 1, x59), (3, 1, x63)] (fun x64 w =>
 storeW 10 x1 x64 (fun _ w =>
 andP (fun w => andP (fun w => trueP w) (fun w => andP (fun w => trueP w) (fun w => trueP w) w) w) (fun w =>
 loadNW 10 x1 (fun x66 w =>
 K (Value.tuple #[x66, (Value.bool true)]) w) w) w) w) w) w) w) w) w) w) w) w) w) (fun w => binIntW .eql x11 (Value.int .i64 4) (fun x67 w =>
 condP x67 (fun w => drewW (fun w => nilW a0 (fun x68 w =>
 addW 7 x68 (fun x69 w =>
 load1W x69 (fun x70 w =>
 nilW a0 (fun x71 w =>
 addW 12 x71 (fun x72 w =>
 load1W x72 (fun x73 w =>
 idxW 2 x70 x73 (fun x74 w =>
 addW 0 x74 (fun x75 w =>
 load1W x75 (fun x76 w =>
 buildW [(Value.int .i64 0), (Value.int .i64 0), (Value.int .u64 0), (Value.int .u64 0), (Value.int .u64 0), (Value.bool false), (Value.int .i64 0), (Value.int .u64 0), (Value.bool false), (Value.int .i64 0)] [(0, 1, (Value.int .i64 3)), (1, 1, x76)] (fun x77 w =>
 storeW 10 x1 x77 (fun _ w =>
 andP (fun w => andP (fun w => trueP w) (fun w => andP (fun w => trueP w) (fun w => andP (fun w => trueP w) (fun w => trueP w) w) w) w) (fun w =>
 loadNW 10 x1 (fun x79 w =>
 K (Value.tuple #[x79, (Value.bool true)]) w) w) w) w) w) w) w) w) w) w) w) w) w) w) w) (fun w => binIntW .eql x11 (Value.int .i64 5) (fun x80 w =>
 condP x80 (fun w => drewW (fun w => nilW a0 (fun x81 w =>
 addW 8 x81 (fun x82 w =>
 load1W x82 (fun x83 w =>
 nilW a0 (fun x84 w =>
 addW 12 x84 (fun x85 w =>
 load1W x85 (fun x86 w =>
 idxW 2 x83 x86 (fun x87 w =>
 addW 0 x87 (fun x88 w =>
 load1W x88 (fun x89 w =>
 nilW a0 (fun x90 w =>
 addW 8 x90 (fun x91 w =>
 load1W x91 (fun x92 w =>
 nilW a0 (fun x93 w =>
 addW 12 x93 (fun x94 w =>
 load1W x94 (fun x95 w =>
 idxW 2 x92 x95 (fun x96 w =>
 addW 1 x96 (fun x97 w =>
 load1W x97 (fun x98 w =>
 buildW [(Value.int .i64 0), (Value.int .i64 0), (Value.int .u64 0), (Value.int .u64 0), (Value.int .u64 0), (Value.bool false), (Value.int .i64 0), (Value.int .u64 0), (Value.bool false), (Value.int .i64 0)] [(0, 1, (Value.int .i64 2)), (1, 1, x89), (3, 1, x98)] (fun x99 w =>
 storeW 10 x1 x99 (fun _ w =>
 andP (fun w => andP (fun w => trueP w) (fun w => andP (fun w => trueP w) (fun w => andP (fun w => trueP w) (fun w => andP (fun w => trueP w) (fun w => andP (fun w => trueP w) (fun w => andP (fun w => trueP w) (fun w => trueP w) w) w) w) w) w) w) (fun w =>
 loadNW 10 x1 (fun x101 w =>
 K (Value.tuple #[x101, (Value.bool true)]) w) w) w) w) w) w) w) w) w) w) w) w) w) w) w) w) w) w) w) w) w) w) w) w) (fun w => binIntW .eql x11 (Value.int .i64 6) (fun x102 w =>
 condP x102 (fun w => drewW (fun w => nilW a0 (fun x103 w =>
 addW 9 x103 (fun x104 w =>
 load1W x104 (fun x105 w =>
 nilW a0 (fun x106 w =>
 addW 12 x106 (fun x107 w =>
 load1W x107 (fun x108 w =>
 idxW 1 x105 x108 (fun x109 w =>
 load1W x109 (fun x110 w =>
 nilW a0 (fun x111 w =>
 addW 16 x111 (fun x112 w =>
 load1W x112 (fun x113 w =>
 binIntW .add x113 (Value.int .u64 1) (fun x114 w =>
 buildW [(Value.int .u64 0), (Value.bool false), (Value.int .i64 0)] [(0, 1, x114)] (fun x115 w =>
 buildW [(Value.int .i64 0), (Value.int .i64 0), (Value.int .u64 0), (Value.int .u64 0), (Value.int .u64 0), (Value.bool false), (Value.int .i64 0), (Value.int .u64 0), (Value.bool false), (Value.int .i64 0)] [(0, 1, (Value.int .i64 5)), (1, 1, x110), (7, 3, x115)] (fun x116 w =>
 storeW 10 x1 x116 (fun _ w =>
 andP (fun w => andP (fun w => trueP w) (fun w => andP (fun w => trueP w) (fun w => andP (fun w => trueP w) (fun w => andP (fun w => trueP w) (fun w => trueP w) w) w) w) w) (fun w =>
 loadNW 10 x1 (fun x118 w =>
 K (Value.tuple #[x118, (Value.bool true)]) w) w) w) w) w) w) w) w) w) w) w) w) w) w) w) w) w) w) w) (fun w => drewW (fun w => nilW a0 (fun x119 w =>
 addW 9 x119 (fun x120 w =>
 load1W x120 (fun x121 w =>
 nilW a0 (fun x122 w =>
 addW 12 x122 (fun x123 w =>
 load1W x123 (fun x124 w =>
 idxW 1 x121 x124 (fun x125 w =>
 load1W x125 (fun x126 w =>
 nilW a0 (fun x127 w =>
 addW 10 x127 (fun x128 w =>
 load1W x128 (fun x129 w =>
 nilW a0 (fun x130 w =>
 addW 12 x130 (fun x131 w =>
 load1W x131 (fun x132 w =>
 idxW 3 x129 x132 (fun x133 w =>
 loadNW 3 x133 (fun x134 w =>
 buildW [(Value.int .i64 0), (Value.int .i64 0), (Value.int .u64 0), (Value.int .u64 0), (Value.int .u64 0), (Value.bool false), (Value.int .i64 0), (Value.int .u64 0), (Value.bool false), (Value.int .i64 0)] [(0, 1, (Value.int .i64 5)), (1, 1, x126), (7, 3, x134)] (fun x135 w =>
 storeW 10 x1 x135 (fun _ w =>
 andP (fun w => andP (fun w => trueP w) (fun w => andP (fun w => trueP w) (fun w => andP (fun w => trueP w) (fun w => andP (fun w => trueP w) (fun w => andP (fun w => trueP w) (fun w => andP (fun w => trueP w) (fun w => trueP w) w) w) w) w) w) w) (fun w =>
 loadNW 10 x1 (fun x137 w =>
 K (Value.tuple #[x137, (Value.bool true)]) w) w) w) w) w) w) w) w) w) w) w) w) w) w) w) w) w) w) w) w) w) w) w) w) w) w) w) w) w) w) w) w) w) w) w) w) w) w) w) w) w) w) w) w) w

theorem Q_commit_Commit_Next (a0 : Value) (K : KV) : S_commit_Commit_Next a0 K = P_commit_Commit_Next a0 K := by
  unfold S_commit_Commit_Next P_commit_Commit_Next
  generalize @CP = y_CP
  generalize @addW = y_addW
  generalize @andP = y_andP
  generalize @binIntW = y_binIntW
  generalize @buildW = y_buildW
  generalize @condP = y_condP
  generalize @drewW = y_drewW
  generalize @eqP = y_eqP
  generalize @idxW = y_idxW
  generalize @lenW = y_lenW
  generalize @load1W = y_load1W
  generalize @loadNW = y_loadNW
  generalize @newW = y_newW
  generalize @nilW = y_nilW
  generalize @storeW = y_storeW
  rfl

/-- ref23_Commit_Next -/
def P_ref23_Commit_Next (a0 : Value) (K : KV) : World → Prop := fun w =>
 newW #[(Value.int .i64 0), (Value.int .i64 0), (Value.int .u64 0), (Value.int .u64 0), (Value.int .u64 0), (Value.bool false), (Value.int .i64 0), (Value.int .u64 0), (Value.bool false), (Value.int .i64 0)] (fun x1 w =>
 nilW a0 (fun x2 w =>
 addW 13 x2 (fun x3 w =>
 load1W x3 (fun x4 w =>
 binIntW .eql x4 (Value.int .i64 0) (fun x5 w =>
 condP x5 (fun w => drewW (fun w => nilW a0 (fun x6 w =>
 addW 8 x6 (fun x7 w =>
 load1W x7 (fun x8 w =>
 nilW a0 (fun x9 w =>
 addW 14 x9 (fun x10 w =>
 load1W x10 (fun x11 w =>
 idxW 1 x8 x11 (fun x12 w =>
 load1W x12 (fun x13 w =>
 buildW [(Value.int .i64 0), (Value.int .i64 0), (Value.int .u64 0), (Value.int .u64 0), (Value.int .u64 0), (Value.bool false), (Value.int .i64 0), (Value.int .u64 0), (Value.bool false), (Value.int .i64 0)] [(0, 1, (Value.int .i64 3)), (1, 1, x13)] (fun x14 w =>
 storeW 10 x1 x14 (fun _ w =>
 andP (fun w => andP (fun w => trueP w) (fun w => andP (fun w => trueP w) (fun w => andP (fun w => trueP w) (fun w => trueP w) w) w) w) (fun w =>
 loadNW 10 x1 (fun x16 w =>
 K x16 w) w) w) w) w) w) w) w) w) w) w) w) w) w) (fun w => binIntW .eql x4 (Value.int .i64 1) (fun x17 w =>
 condP x17 (fun w => drewW (fun w => nilW a0 (fun x18 w =>
 addW 8 x18 (fun x19 w =>
 load1W x19 (fun x20 w =>
 nilW a0 (fun x21 w =>
 addW 14 x21 (fun x22 w =>
 load1W x22 (fun x23 w =>
 idxW 1 x20 x23 (fun x24 w =>
 load1W x24 (fun x25 w =>
 nilW a0 (fun x26 w =>
 addW 10 x26 (fun x27 w =>
 loadNW 3 x27 (fun x28 w =>
 nilW a0 (fun x29 w =>
 addW 10 x29 (fun x30 w =>
 addW 0 x30 (fun x31 w =>
 load1W x31 (fun x32 w =>
 nilW a0 (fun x33 w =>
 addW 0 x33 (fun x34 w =>
 addW 0 x34 (fun x35 w =>
 load1W x35 (fun x36 w =>
 buildW [(Value.int .u64 0), (Value.bool false), (Value.int .i64 0)] [(0, 1, x32), (1, 1, (Value.bool true)), (2, 1, x36)] (fun x37 w =>
 buildW [(Value.int .i64 0), (Value.int .i64 0), (Value.int .u64 0), (Value.int .u64 0), (Value.int .u64 0), (Value.bool false), (Value.int .i64 0), (Value.int .u64 0), (Value.bool false), (Value.int .i64 0)] [(0, 1, (Value.int .i64 4)), (1, 1, x25), (4, 3, x28), (7, 3, x37)] (fun x38 w =>
 storeW 10 x1 x38 (fun _ w =>
 andP (fun w => andP (fun w => trueP w) (fun w => andP (fun w => trueP w) (fun w => andP (fun w => trueP w) (fun w => andP (fun w => trueP w) (fun w => andP (fun w => trueP w) (fun w => andP (fun w => trueP w) (fun w => trueP w) w) w) w) w) w) w) (fun w =>
 loadNW 10 x1 (fun x40 w =>
 K x40 w) w) w) w) w) w) w) w) w) w) w) w) w) w) w) w) w) w) w) w) w) w) w) w) w) w) (fun w => binIntW .eql x4 (Value.int .i64 2) (fun x41 w =>
 condP x41 (fun w => buildW [(Value.int .i64 0), (Value.int .i64 0), (Value.int .u64 0), (Value.int .u64 0), (Value.int .u64 0), (Value.bool false), (Value.int .i64 0), (Value.int .u64 0), (Value.bool false), (Value.int .i64 0)] [(0, 1, (Value.int .i64 6))] (fun x42 w =>
 storeW 10 x1 x42 (fun _ w =>
 loadNW 10 x1 (fun x44 w =>
 K x44 w) w) w) w) (fun w => binIntW .eql x4 (Value.int .i64 3) (fun x45 w =>
 condP x45 (fun w => drewW (fun w => nilW a0 (fun x46 w =>
 addW 15 x46 (fun x47 w =>
 load1W x47 (fun x48 w =>
 nilW a0 (fun x49 w =>
 addW 15 x49 (fun x50 w =>
 load1W x50 (fun x51 w =>
 binIntW .add x51 (Value.int .u64 1) (fun x52 w =>
 buildW [(Value.int .i64 0), (Value.int .i64 0), (Value.int .u64 0), (Value.int .u64 0), (Value.int .u64 0), (Value.bool false), (Value.int .i64 0), (Value.int .u64 0), (Value.bool false), (Value.int .i64 0)] [(0, 1, (Value.int .i64 7)), (2, 1, x48), (3, 1, x52)] (fun x53 w =>
 storeW 10 x1 x53 (fun _ w =>
 andP (fun w => andP (fun w => trueP w) (fun w => andP (fun w => trueP w) (fun w => trueP w) w) w) (fun w =>
 loadNW 10 x1 (fun x55 w =>
 K x55 w) w) w) w) w) w) w) w) w) w) w) w) w) (fun w => binIntW .eql x4 (Value.int .i64 4) (fun x56 w =>
 condP x56 (fun w => drewW (fun w => nilW a0 (fun x57 w =>
 addW 6 x57 (fun x58 w =>
 load1W x58 (fun x59 w =>
 nilW a0 (fun x60 w =>
 addW 14 x60 (fun x61 w =>
 load1W x61 (fun x62 w =>
 idxW 2 x59 x62 (fun x63 w =>
 addW 0 x63 (fun x64 w =>
 load1W x64 (fun x65 w =>
 buildW [(Value.int .i64 0), (Value.int .i64 0), (Value.int .u64 0), (Value.int .u64 0), (Value.int .u64 0), (Value.bool false), (Value.int .i64 0), (Value.int .u64 0), (Value.bool false), (Value.int .i64 0)] [(0, 1, (Value.int .i64 3)), (1, 1, x65)] (fun x66 w =>
 storeW 10 x1 x66 (fun _ w =>
 andP (fun w => andP (fun w => trueP w) (fun w => andP (fun w => trueP w) (fun w => andP (fun w => trueP w) (fun w => trueP w) w) w) w) (fun w =>
 loadNW 10 x1 (fun x68 w =>
 K x68 w) w) w) w) w) w) w) w) w) w) w) w) w) w) w) (fun w => binIntW .eql x4 (Value.int .i64 5) (fun x69 w =>
 condP x69 (fun w => drewW (fun w => nilW a0 (fun x70 w =>
 addW 7 x70 (fun x71 w =>
 load1W x71 (fun x72 w =>
 nilW a0 (fun x73 w =>
 addW 14 x73 (fun x74 w =>
 load1W x74 (fun x75 w =>
 idxW 2 x72 x75 (fun x76 w =>
 addW 0 x76 (fun x77 w =>
 load1W x77 (fun x78 w =>
 nilW a0 (fun x79 w =>
 addW 7 x79 (fun x80 w =>
 load1W x80 (fun x81 w =>
 nilW a0 (fun x82 w =>
 addW 14 x82 (fun x83 w =>
 load1W x83 (fun x84 w =>
 idxW 2 x81 x84 (fun x85 w =>
 addW 1 x85 (fun x86 w =>
 load1W x86 (fun x87 w =>
 buildW [(Value.int .i64 0), (Value.int .i64 0), (Value.int .u64 0), (Value.int .u64 0), (Value.int .u64 0), (Value.bool false), (Value.int .i64 0), (Value.int .u64 0), (Value.bool false), (Value.int .i64 0)] [(0, 1, (Value.int .i64 2)), (1, 1, x78), (3, 1, x87)] (fun x88 w =>
 storeW 10 x1 x88 (fun _ w =>
 andP (fun w => andP (fun w => trueP w) (fun w => andP (fun w => trueP w) (fun w => andP (fun w => trueP w) (fun w => andP (fun w => trueP w) (fun w => andP (fun w => trueP w) (fun w => andP (fun w => trueP w) (fun w => trueP w) w) w) w) w) w) w) (fun w =>
 loadNW 10 x1 (fun x90 w =>
 K x90 w) w) w) w) w) w) w) w) w) w) w) w) w) w) w) w) w) w) w) w) w) w) w) w) (fun w => binIntW .eql x4 (Value.int .i64 6) (fun x91 w =>
 condP x91 (fun w => drewW (fun w => nilW a0 (fun x92 w =>
 addW 8 x92 (fun x93 w =>
 load1W x93 (fun x94 w =>
 nilW a0 (fun x95 w =>
 addW 14 x95 (fun x96 w =>
 load1W x96 (fun x97 w =>
 idxW 1 x94 x97 (fun x98 w =>
 load1W x98 (fun x99 w =>
 nilW a0 (fun x100 w =>
 addW 15 x100 (fun x101 w =>
 load1W x101 (fun x102 w =>
 binIntW .add x102 (Value.int .u64 1) (fun x103 w =>
 buildW [(Value.int .u64 0), (Value.bool false), (Value.int .i64 0)] [(0, 1, x103)] (fun x104 w =>
 buildW [(Value.int .i64 0), (Value.int .i64 0), (Value.int .u64 0), (Value.int .u64 0), (Value.int .u64 0), (Value.bool false), (Value.int .i64 0), (Value.int .u64 0), (Value.bool false), (Value.int .i64 0)] [(0, 1, (Value.int .i64 5)), (1, 1, x99), (7, 3, x104)] (fun x105 w =>
 storeW 10 x1 x105 (fun _ w =>
 andP (fun w => andP (fun w => trueP w) (fun w => andP (fun w => trueP w) (fun w => andP (fun w => trueP w) (fun w => andP (fun w => trueP w) (fun w => trueP w) w) w) w) w) (fun w =>
 loadNW 10 x1 (fun x107 w =>
 K x107 w) w) w) w) w) w) w) w) w) w) w) w) w) w) w) w) w) w) w) (fun w => drewW (fun w => nilW a0 (fun x108 w =>
 addW 8 x108 (fun x109 w =>
 load1W x109 (fun x110 w =>
 nilW a0 (fun x111 w =>
 addW 14 x111 (fun x112 w =>
 load1W x112 (fun x113 w =>
 idxW 1 x110 x113 (fun x114 w =>
 load1W x114 (fun x115 w =>
 nilW a0 (fun x116 w =>
 addW 9 x116 (fun x117 w =>
 load1W x117 (fun x118 w =>
 nilW a0 (fun x119 w =>
 addW 14 x119 (fun x120 w =>
 load1W x120 (fun x121 w =>
 idxW 3 x118 x121 (fun x122 w =>
 loadNW 3 x122 (fun x123 w =>
 buildW [(Value.int .i64 0), (Value.int .i64 0), (Value.int .u64 0), (Value.int .u64 0), (Value.int .u64 0), (Value.bool false), (Value.int .i64 0), (Value.int .u64 0), (Value.bool false), (Value.int .i64 0)] [(0, 1, (Value.int .i64 5)), (1, 1, x115), (7, 3, x123)] (fun x124 w =>
 storeW 10 x1 x124 (fun _ w =>
 andP (fun w => andP (fun w => trueP w) (fun w => andP (fun w => trueP w) (fun w => andP (fun w => trueP w) (fun w => andP (fun w => trueP w) (fun w => andP (fun w => trueP w) (fun w => andP (fun w => trueP w) (fun w => trueP w) w) w) w) w) w) w) (fun w =>
 loadNW 10 x1 (fun x126 w =>
 K x126 w) w) w) w) w) w) w) w) w) w) w) w) w) w) w) w) w) w) w) w) w) w) w) w) w) w) w) w) w) w) w) w) w) w) w) w) w) w) w) w

theorem Q_ref23_Commit_Next (a0 : Value) (K : KV) : S_ref23_Commit_Next a0 K = P_ref23_Commit_Next a0 K := by
  unfold S_ref23_Commit_Next P_ref23_Commit_Next
  generalize @addW = y_addW
  generalize @andP = y_andP
  generalize @binIntW = y_binIntW
  generalize @buildW = y_buildW
  generalize @condP = y_condP
  generalize @drewW = y_drewW
  generalize @idxW = y_idxW
  generalize @load1W = y_load1W
  generalize @loadNW = y_loadNW
  generalize @newW = y_newW
  generalize @nilW = y_nilW
  generalize @storeW = y_storeW
  rfl

/-- commit_Commit_End -/
def P_commit_Commit_End (a0 : Value) (K : KV) : World → Prop := fun w =>
 nilW a0 (fun x1 w =>
 addW 0 x1 (fun x2 w =>
 CP Tryz.prog Fn.patience_Patience_End [x2] (fun x3 w =>
 K x3 w) w) w) w

theorem Q_commit_Commit_End (a0 : Value) (K : KV) : S_commit_Commit_End a0 K = P_commit_Commit_End a0 K := by
  unfold S_commit_Commit_End P_commit_Commit_End
  generalize @CP = y_CP
  generalize @addW = y_addW
  generalize @nilW = y_nilW
  rfl

/-- commit_Commit_Err -/
def P_commit_Commit_Err (a0 : Value) (K : KV) : World → Prop := fun w =>
 nilW a0 (fun x1 w =>
 addW 0 x1 (fun x2 w =>
 CP Tryz.prog Fn.patience_Patience_Err [x2] (fun x3 w =>
 K x3 w) w) w) w

theorem Q_commit_Commit_Err (a0 : Value) (K : KV) : S_commit_Commit_Err a0 K = P_commit_Commit_Err a0 K := by
  unfold S_commit_Commit_Err P_commit_Commit_Err
  generalize @CP = y_CP
  generalize @addW = y_addW
  generalize @nilW = y_nilW
  rfl

/-- commit_Commit_By -/
def P_commit_Commit_By (a0 : Value) (K : KV) : World → Prop := fun w =>
 nilW a0 (fun x1 w =>
 addW 0 x1 (fun x2 w =>
 CP Tryz.prog Fn.patience_Patience_By [x2] (fun x3 w =>
 K x3 w) w) w) w

theorem Q_commit_Commit_By (a0 : Value) (K : KV) : S_commit_Commit_By a0 K = P_commit_Commit_By a0 K := by
  unfold S_commit_Commit_By P_commit_Commit_By
  generalize @CP = y_CP
  generalize @addW = y_addW
  generalize @nilW = y_nilW
  rfl

/-- commit_Commit_Tell -/
def P_commit_Commit_Tell (a0 a1 : Value) (K : KV) : World → Prop := fun w =>
 boxW a1 (fun x1 w =>
 drewW (fun w => nilW a0 (fun x2 w =>
 addW 0 x2 (fun x3 w =>
 loadNW 6 x1 (fun x4 w =>
 CP Tryz.prog Fn.patience_Patience_Stopped [x3, x4] (fun x5 w =>
 andP (fun w => andP (fun w => trueP w) (fun w => trueP w) w) (fun w =>
 condP x5 (fun w => K (Value.tuple #[]) w) (fun w => nilW a0 (fun x6 w =>
 addW 11 x6 (fun x7 w =>
 load1W x7 (fun x8 w =>
 binIntW .eql x8 (Value.int .i64 0) (fun x9 w =>
 joinW1 (fun x10 w =>
 joinW0 (fun  w =>
 K (Value.tuple #[]) w) (fun j2 w =>
 condP x10 (fun w => loadNW 6 x1 (fun x11 w =>
 CP Tryz.prog Fn.commit_Commit_take [a0, x11] (fun x12 w =>
 j2  w) w) w) (fun w => binIntW .eql x8 (Value.int .i64 2) (fun x13 w =>
 joinW1 (fun x14 w =>
 joinW0 (fun  w =>
 j2  w) (fun j4 w =>
 condP x14 (fun w => loadNW 6 x1 (fun x15 w =>
 CP Tryz.prog Fn.commit_Commit_raise [a0, x15] (fun x16 w =>
 j4  w) w) w) (fun w => binIntW .eql x8 (Value.int .i64 4) (fun x17 w =>
 joinW0 (fun  w =>
 j4  w) (fun j5 w =>
 condP x17 (fun w => addW 1 x1 (fun x18 w =>
 loadNW 3 x18 (fun x19 w =>
 CP Tryz.prog Fn.commit_Commit_proved [a0, x19] (fun x20 w =>
 j5  w) w) w) w) (fun w => binIntW .eql x8 (Value.int .i64 5) (fun x21 w =>
 joinW0 (fun  w =>
 j5  w) (fun j6 w =>
 condP x21 (fun w => nilW a0 (fun x22 w =>
 addW 12 x22 (fun x23 w =>
 load1W x23 (fun x24 w =>
 binIntW .add x24 (Value.int .i64 1) (fun x25 w =>
 nilW a0 (fun x26 w =>
 addW 12 x26 (fun x27 w =>
 storeW 1 x27 x25 (fun _ w =>
 CP Tryz.prog Fn.commit_Commit_write [a0] (fun x29 w =>
 j6  w) w) w) w) w) w) w) w) w) (fun w => binIntW .eql x8 (Value.int .i64 6) (fun x30 w =>
 joinW0 (fun  w =>
 j6  w) (fun j7 w =>
 condP x30 (fun w => nilW a0 (fun x31 w =>
 addW 12 x31 (fun x32 w =>
 load1W x32 (fun x33 w =>
 binIntW .add x33 (Value.int .i64 1) (fun x34 w =>
 nilW a0 (fun x35 w =>
 addW 12 x35 (fun x36 w =>
 storeW 1 x36 x34 (fun _ w =>
 CP Tryz.prog Fn.commit_Commit_give [a0] (fun x38 w =>
 j7  w) w) w) w) w) w) w) w) w) (fun w => binIntW .eql x8 (Value.int .i64 7) (fun x39 w =>
 joinW0 (fun  w =>
 j7  w) (fun j8 w =>
 condP x39 (fun w => nilW a0 (fun x40 w =>
 addW 12 x40 (fun x41 w =>
 load1W x41 (fun x42 w =>
 binIntW .add x42 (Value.int .i64 1) (fun x43 w =>
 nilW a0 (fun x44 w =>
 addW 12 x44 (fun x45 w =>
 storeW 1 x45 x43 (fun _ w =>
 CP Tryz.prog Fn.commit_Commit_leave [a0] (fun x47 w =>
 j8  w) w) w) w) w) w) w) w) w) (fun w => j8  w) w) w) w) w) w) w) w) w) w) w) w) w) w) w) (fun j3 w =>
 condP x13 (fun w => j3 x13 w) (fun w => binIntW .eql x8 (Value.int .i64 3) (fun x48 w =>
 j3 x48 w) w) w) w) w) w) w) (fun j1 w =>
 condP x9 (fun w => j1 x9 w) (fun w => binIntW .eql x8 (Value.int .i64 1) (fun x49 w =>
 j1 x49 w) w) w) w) w) w) w) w) w) w) w) w) w) w) w) w

theorem Q_commit_Commit_Tell (a0 a1 : Value) (K : KV) : S_commit_Commit_Tell a0 a1 K = P_commit_Commit_Tell a0 a1 K := by
  unfold S_commit_Commit_Tell P_commit_Commit_Tell
  generalize @CP = y_CP
  generalize @addW = y_addW
  generalize @andP = y_andP
  generalize @binIntW = y_binIntW
  generalize @boxW = y_boxW
  generalize @condP = y_condP
  generalize @drewW = y_drewW
  generalize @joinW0 = y_joinW0
  generalize @joinW1 = y_joinW1
  generalize @load1W = y_load1W
  generalize @loadNW = y_loadNW
  generalize @nilW = y_nilW
  generalize @storeW = y_storeW
  rfl

/-- ref23_Commit_Tell -/
def P_ref23_Commit_Tell (a0 a1 : Value) (K : KV) : World → Prop := fun w =>
 boxW a1 (fun x1 w =>
 drewW (fun w => nilW a0 (fun x2 w =>
 addW 0 x2 (fun x3 w =>
 addW 2 x3 (fun x4 w =>
 load1W x4 (fun x5 w =>
 binIntW .neq x5 (Value.int .i64 0) (fun x6 w =>
 gW x6 false (fun K w => K a0 w) (fun x7 w =>
 gW x6 false (fun K w => nilW x7 K w) (fun x8 w =>
 gW x6 false (fun K w => addW 0 x8 K w) (fun x9 w =>
 gW x6 false (fun K w => loadNW 6 x1 K w) (fun x10 w =>
 gW x6 false (fun K w => CP Tryz.prog Fn.ref23_Step_failed [x9, x10] K w) (fun x11 w =>
 andP (fun w => andP (fun w => trueP w) (fun w => andP (fun w => trueP w) (fun w => trueP w) w) w) (fun w =>
 pickW x6 (Value.bool true) x11 (fun x12 w =>
 condP x12 (fun w => K (Value.tuple #[]) w) (fun w => nilW a0 (fun x13 w =>
 addW 13 x13 (fun x14 w =>
 load1W x14 (fun x15 w =>
 binIntW .eql x15 (Value.int .i64 0) (fun x16 w =>
 joinW1 (fun x17 w =>
 joinW0 (fun  w =>
 K (Value.tuple #[]) w) (fun j2 w =>
 condP x17 (fun w => loadNW 6 x1 (fun x18 w =>
 CP Tryz.prog Fn.ref23_Commit_locks [a0, x18] (fun x19 w =>
 j2  w) w) w) (fun w => binIntW .eql x15 (Value.int .i64 2) (fun x20 w =>
 joinW0 (fun  w =>
 j2  w) (fun j3 w =>
 condP x20 (fun w => addW 0 x1 (fun x21 w =>
 load1W x21 (fun x22 w =>
 nilW a0 (fun x23 w =>
 addW 15 x23 (fun x24 w =>
 storeW 1 x24 x22 (fun _ w =>
 nilW a0 (fun x26 w =>
 addW 13 x26 (fun x27 w =>
 storeW 1 x27 (Value.int .i64 3) (fun _ w =>
 nilW a0 (fun x29 w =>
 addW 15 x29 (fun x30 w =>
 load1W x30 (fun x31 w =>
 binIntW .geq x31 (Value.int .u64 4611686018427387903) (fun x32 w =>
 joinW0 (fun  w =>
 j3  w) (fun j4 w =>
 condP x32 (fun w => CP Tryz.prog Fn.ref23_Commit_out [a0, (Value.int .i64 4), (Value.int .i64 7), (Value.int .i64 (-1))] (fun x33 w =>
 j4  w) w) (fun w => j4  w) w) w) w) w) w) w) w) w) w) w) w) w) w) w) (fun w => binIntW .eql x15 (Value.int .i64 3) (fun x34 w =>
 joinW0 (fun  w =>
 j3  w) (fun j5 w =>
 condP x34 (fun w => addW 4 x1 (fun x35 w =>
 load1W x35 (fun x36 w =>
 notW x36 (fun x37 w =>
 condP x37 (fun w => nilW a0 (fun x38 w =>
 addW 13 x38 (fun x39 w =>
 storeW 1 x39 (Value.int .i64 2) (fun _ w =>
 K (Value.tuple #[]) w) w) w) w) (fun w => nilW a0 (fun x41 w =>
 addW 13 x41 (fun x42 w =>
 storeW 1 x42 (Value.int .i64 4) (fun _ w =>
 nilW a0 (fun x44 w =>
 addW 14 x44 (fun x45 w =>
 storeW 1 x45 (Value.int .i64 0) (fun _ w =>
 drewW (fun w => nilW a0 (fun x47 w =>
 addW 15 x47 (fun x48 w =>
 load1W x48 (fun x49 w =>
 nilW a0 (fun x50 w =>
 addW 5 x50 (fun x51 w =>
 load1W x51 (fun x52 w =>
 binIntW .eql x49 x52 (fun x53 w =>
 condP x53 (fun w => CP Tryz.prog Fn.ref23_Commit_write [a0] (fun x54 w =>
 K (Value.tuple #[]) w) w) (fun w => CP Tryz.prog Fn.ref23_Commit_look [a0] (fun x55 w =>
 j5  w) w) w) w) w) w) w) w) w) w) w) w) w) w) w) w) w) w) w) w) w) (fun w => binIntW .eql x15 (Value.int .i64 5) (fun x56 w =>
 joinW0 (fun  w =>
 j5  w) (fun j6 w =>
 condP x56 (fun w => nilW a0 (fun x57 w =>
 addW 14 x57 (fun x58 w =>
 load1W x58 (fun x59 w =>
 binIntW .add x59 (Value.int .i64 1) (fun x60 w =>
 nilW a0 (fun x61 w =>
 addW 14 x61 (fun x62 w =>
 storeW 1 x62 x60 (fun _ w =>
 drewW (fun w => nilW a0 (fun x64 w =>
 addW 14 x64 (fun x65 w =>
 load1W x65 (fun x66 w =>
 nilW a0 (fun x67 w =>
 addW 7 x67 (fun x68 w =>
 load1W x68 (fun x69 w =>
 lenW x69 (fun x70 w =>
 binIntW .eql x66 x70 (fun x71 w =>
 joinW0 (fun  w =>
 j6  w) (fun j7 w =>
 condP x71 (fun w => CP Tryz.prog Fn.ref23_Commit_free [a0] (fun x72 w =>
 j7  w) w) (fun w => j7  w) w) w) w) w) w) w) w) w) w) w) w) w) w) w) w) w) w) w) (fun w => binIntW .eql x15 (Value.int .i64 6) (fun x73 w =>
 joinW0 (fun  w =>
 j6  w) (fun j8 w =>
 condP x73 (fun w => nilW a0 (fun x74 w =>
 addW 14 x74 (fun x75 w =>
 load1W x75 (fun x76 w =>
 binIntW .add x76 (Value.int .i64 1) (fun x77 w =>
 nilW a0 (fun x78 w =>
 addW 14 x78 (fun x79 w =>
 storeW 1 x79 x77 (fun _ w =>
 drewW (fun w => nilW a0 (fun x81 w =>
 addW 14 x81 (fun x82 w =>
 load1W x82 (fun x83 w =>
 nilW a0 (fun x84 w =>
 addW 8 x84 (fun x85 w =>
 load1W x85 (fun x86 w =>
 lenW x86 (fun x87 w =>
 binIntW .eql x83 x87 (fun x88 w =>
 joinW0 (fun  w =>
 j8  w) (fun j9 w =>
 condP x88 (fun w => nilW a0 (fun x89 w =>
 addW 0 x89 (fun x90 w =>
 addW 2 x90 (fun x91 w =>
 storeW 1 x91 (Value.int .i64 2) (fun _ w =>
 j9  w) w) w) w) w) (fun w => j9  w) w) w) w) w) w) w) w) w) w) w) w) w) w) w) w) w) w) w) (fun w => nilW a0 (fun x93 w =>
 addW 14 x93 (fun x94 w =>
 load1W x94 (fun x95 w =>
 binIntW .add x95 (Value.int .i64 1) (fun x96 w =>
 nilW a0 (fun x97 w =>
 addW 14 x97 (fun x98 w =>
 storeW 1 x98 x96 (fun _ w =>
 drewW (fun w => nilW a0 (fun x100 w =>
 addW 14 x100 (fun x101 w =>
 load1W x101 (fun x102 w =>
 nilW a0 (fun x103 w =>
 addW 9 x103 (fun x104 w =>
 load1W x104 (fun x105 w =>
 lenW x105 (fun x106 w =>
 binIntW .eql x102 x106 (fun x107 w =>
 joinW0 (fun  w =>
 j8  w) (fun j10 w =>
 condP x107 (fun w => drewW (fun w => nilW a0 (fun x108 w =>
 addW 16 x108 (fun x109 w =>
 load1W x109 (fun x110 w =>
 nilW a0 (fun x111 w =>
 addW 17 x111 (fun x112 w =>
 load1W x112 (fun x113 w =>
 nilW a0 (fun x114 w =>
 addW 18 x114 (fun x115 w =>
 load1W x115 (fun x116 w =>
 nilW a0 (fun x117 w =>
 addW 0 x117 (fun x118 w =>
 addW 2 x118 (fun x119 w =>
 storeW 1 x119 x110 (fun _ w =>
 andP (fun w => andP (fun w => trueP w) (fun w => andP (fun w => trueP w) (fun w => andP (fun w => trueP w) (fun w => trueP w) w) w) w) (fun w =>
 nilW a0 (fun x121 w =>
 addW 0 x121 (fun x122 w =>
 addW 3 x122 (fun x123 w =>
 storeW 1 x123 x113 (fun _ w =>
 andP (fun w => trueP w) (fun w =>
 nilW a0 (fun x125 w =>
 addW 0 x125 (fun x126 w =>
 addW 4 x126 (fun x127 w =>
 storeW 1 x127 x116 (fun _ w =>
 andP (fun w => trueP w) (fun w =>
 j10  w) w) w) w) w) w) w) w) w) w) w) w) w) w) w) w) w) w) w) w) w) w) w) w) w) w) (fun w => j10  w) w) w) w) w) w) w) w) w) w) w) w) w) w) w) w) w) w) w) w) w) w) w) w) w) w) w) w) w) w) w) w) w) (fun j1 w =>
 condP x16 (fun w => j1 x16 w) (fun w => binIntW .eql x15 (Value.int .i64 1) (fun x129 w =>
 joinW1 (fun x130 w =>
 j1 x130 w) (fun j11 w =>
 condP x129 (fun w => j11 x129 w) (fun w => binIntW .eql x15 (Value.int .i64 4) (fun x131 w =>
 j11 x131 w) w) w) w) w) w) w) w) w) w) w) w) w) w) w) w) w) w) w) w) w) w) w) w) w) w

theorem Q_ref23_Commit_Tell (a0 a1 : Value) (K : KV) : S_ref23_Commit_Tell a0 a1 K = P_ref23_Commit_Tell a0 a1 K := by
  unfold S_ref23_Commit_Tell P_ref23_Commit_Tell
  generalize @CP = y_CP
  generalize @addW = y_addW
  generalize @andP = y_andP
  generalize @binIntW = y_binIntW
  generalize @boxW = y_boxW
  generalize @condP = y_condP
  generalize @drewW = y_drewW
  generalize @gW = y_gW
  generalize @joinW0 = y_joinW0
  generalize @joinW1 = y_joinW1
  generalize @lenW = y_lenW
  generalize @load1W = y_load1W
  generalize @loadNW = y_loadNW
  generalize @nilW = y_nilW
  generalize @notW = y_notW
  generalize @pickW = y_pickW
  generalize @storeW = y_storeW
  rfl

/-- mem_New -/
def P_mem_New (a0 : Value) (K : KV) : World → Prop := fun w =>
 boxW a0 (fun x1 w =>
 loadNW 5 x1 (fun x2 w =>
 CP Tryz.prog Fn.mem_Held [x2] (fun x3 w =>
 storeW 5 x1 x3 (fun _ w =>
 drewW (fun w => loadNW 5 x1 (fun x5 w =>
 addW 0 x1 (fun x6 w =>
 load1W x6 (fun x7 w =>
 addW 1 x1 (fun x8 w =>
 load1W x8 (fun x9 w =>
 addW 2 x1 (fun x10 w =>
 load1W x10 (fun x11 w =>
 addW 4 x1 (fun x12 w =>
 load1W x12 (fun x13 w =>
 addW 3 x1 (fun x14 w =>
 load1W x14 (fun x15 w =>
 CP Tryz.prog Fn.heap_New [x7] (fun x16 w =>
 andP (fun w => andP (fun w => load1W x14 (fun v w => eqP v x15 w) w) (fun w => andP (fun w => load1W x12 (fun v w => eqP v x13 w) w) (fun w => andP (fun w => load1W x10 (fun v w => eqP v x11 w) w) (fun w => andP (fun w => load1W x8 (fun v w => eqP v x9 w) w) (fun w => andP (fun w => trueP w) (fun w => andP (fun w => loadNW 5 x1 (fun v w => eqP v x5 w) w) (fun w => trueP w) w) w) w) w) w) w) (fun w =>
 CP Tryz.prog Fn.stripe_New [x9, x11] (fun x17 w =>
 andP (fun w => andP (fun w => load1W x14 (fun v w => eqP v x15 w) w) (fun w => andP (fun w => load1W x12 (fun v w => eqP v x13 w) w) (fun w => andP (fun w => trueP w) (fun w => andP (fun w => trueP w) (fun w => andP (fun w => loadNW 5 x1 (fun v w => eqP v x5 w) w) (fun w => trueP w) w) w) w) w) w) (fun w =>
 CP Tryz.prog Fn.clock_New [x13] (fun x18 w =>
 andP (fun w => andP (fun w => load1W x14 (fun v w => eqP v x15 w) w) (fun w => andP (fun w => trueP w) (fun w => andP (fun w => loadNW 5 x1 (fun v w => eqP v x5 w) w) (fun w => trueP w) w) w) w) (fun w =>
 CP Tryz.prog Fn.epoch_New [x15] (fun x19 w =>
 andP (fun w => andP (fun w => trueP w) (fun w => andP (fun w => loadNW 5 x1 (fun v w => eqP v x5 w) w) (fun w => trueP w) w) w) (fun w =>
 buildW [(Value.int .i64 0), (Value.int .i64 0), (Value.int .i64 0), (Value.int .i64 0), (Value.int .u64 0), (Value.pointer none), (Value.pointer none), (Value.pointer none), (Value.pointer none), (Value.int .i64 0)] [(0, 5, x5), (5, 1, x16), (6, 1, x17), (7, 1, x18), (8, 1, x19)] (fun x20 w =>
 boxW x20 (fun x21 w =>
 andP (fun w => andP (fun w => trueP w) (fun w => trueP w) w) (fun w =>
 K x21 w) w) w) w) w) w) w) w) w) w) w) w) w) w) w) w) w) w) w) w) w) w) w) w) w) w) w) w

theorem Q_mem_New (a0 : Value) (K : KV) : S_mem_New a0 K = P_mem_New a0 K := by
  unfold S_mem_New P_mem_New
  generalize @CP = y_CP
  generalize @addW = y_addW
  generalize @andP = y_andP
  generalize @boxW = y_boxW
  generalize @buildW = y_buildW
  generalize @drewW = y_drewW
  generalize @eqP = y_eqP
  generalize @load1W = y_load1W
  generalize @loadNW = y_loadNW
  generalize @storeW = y_storeW
  rfl

/-- commit_Commit_Writing -/
def P_commit_Commit_Writing (a0 : Value) (K : KV) : World → Prop := fun w =>
 nilW a0 (fun x1 w =>
 addW 17 x1 (fun x2 w =>
 load1W x2 (fun x3 w =>
 gW x3 true (fun K w => K a0 w) (fun x4 w =>
 gW x3 true (fun K w => CP Tryz.prog Fn.commit_Commit_End [x4] K w) (fun x5 w =>
 gW x3 true (fun K w => binIntW .eql x5 (Value.int .i64 0) K w) (fun x6 w =>
 pickW x3 x6 (Value.bool false) (fun x7 w =>
 K x7 w) w) w) w) w) w) w) w

theorem Q_commit_Commit_Writing (a0 : Value) (K : KV) : S_commit_Commit_Writing a0 K = P_commit_Commit_Writing a0 K := by
  unfold S_commit_Commit_Writing P_commit_Commit_Writing
  generalize @CP = y_CP
  generalize @addW = y_addW
  generalize @binIntW = y_binIntW
  generalize @gW = y_gW
  generalize @load1W = y_load1W
  generalize @nilW = y_nilW
  generalize @pickW = y_pickW
  rfl

/-- mem_Mem_Do -/
def P_mem_Mem_Do (a0 a1 : Value) (K : KV) : World → Prop := fun w =>
 boxW a1 (fun x1 w =>
 newW #[(Value.int .u64 0), (Value.int .u64 0), (Value.bool false), (Value.int .i64 0), (Value.bool false), (Value.int .i64 0)] (fun x2 w =>
 loadNW 10 x1 (fun x3 w =>
 CP Tryz.prog Fn.mem_Mem_do [a0, x3] (fun x4 w =>
 newW #[(Value.int .u64 0), (Value.int .u64 0), (Value.bool false), (Value.int .i64 0), (Value.bool false), (Value.int .i64 0)] (fun x5 w =>
 storeW 6 x5 x4 (fun _ w =>
 addW 5 x5 (fun x7 w =>
 load1W x7 (fun x8 w =>
 binIntW .eql x8 (Value.int .i64 0) (fun x9 w =>
 joinW0 (fun  w =>
 loadNW 6 x5 (fun x10 w =>
 storeW 6 x2 x10 (fun _ w =>
 loadNW 6 x2 (fun x12 w =>
 K x12 w) w) w) w) (fun j1 w =>
 condP x9 (fun w => nilW a0 (fun x13 w =>
 addW 9 x13 (fun x14 w =>
 load1W x14 (fun x15 w =>
 binIntW .add x15 (Value.int .i64 1) (fun x16 w =>
 nilW a0 (fun x17 w =>
 addW 9 x17 (fun x18 w =>
 storeW 1 x18 x16 (fun _ w =>
 j1  w) w) w) w) w) w) w) w) (fun w => j1  w) w) w) w) w) w) w) w) w) w) w) w

theorem Q_mem_Mem_Do (a0 a1 : Value) (K : KV) : S_mem_Mem_Do a0 a1 K = P_mem_Mem_Do a0 a1 K := by
  unfold S_mem_Mem_Do P_mem_Mem_Do
  generalize @CP = y_CP
  generalize @addW = y_addW
  generalize @binIntW = y_binIntW
  generalize @boxW = y_boxW
  generalize @condP = y_condP
  generalize @joinW0 = y_joinW0
  generalize @load1W = y_load1W
  generalize @loadNW = y_loadNW
  generalize @newW = y_newW
  generalize @nilW = y_nilW
  generalize @storeW = y_storeW
  rfl

/-- mem_Mem_Locks -/
def P_mem_Mem_Locks (a0 : Value) (K : KV) : World → Prop := fun w =>
 nilW a0 (fun x1 w =>
 addW 6 x1 (fun x2 w =>
 load1W x2 (fun x3 w =>
 CP Tryz.prog Fn.stripe_Table_All [x3] (fun x4 w =>
 K x4 w) w) w) w) w

theorem Q_mem_Mem_Locks (a0 : Value) (K : KV) : S_mem_Mem_Locks a0 K = P_mem_Mem_Locks a0 K := by
  unfold S_mem_Mem_Locks P_mem_Mem_Locks
  generalize @CP = y_CP
  generalize @addW = y_addW
  generalize @load1W = y_load1W
  generalize @nilW = y_nilW
  rfl

/-- mem_Mem_Words -/
def P_mem_Mem_Words (a0 : Value) (K : KV) : World → Prop := fun w =>
 nilW a0 (fun x1 w =>
 addW 5 x1 (fun x2 w =>
 load1W x2 (fun x3 w =>
 CP Tryz.prog Fn.heap_Heap_All [x3] (fun x4 w =>
 K x4 w) w) w) w) w

theorem Q_mem_Mem_Words (a0 : Value) (K : KV) : S_mem_Mem_Words a0 K = P_mem_Mem_Words a0 K := by
  unfold S_mem_Mem_Words P_mem_Mem_Words
  generalize @CP = y_CP
  generalize @addW = y_addW
  generalize @load1W = y_load1W
  generalize @nilW = y_nilW
  rfl

/-- commit_Commit_Stamp -/
def P_commit_Commit_Stamp (a0 : Value) (K : KV) : World → Prop := fun w =>
 nilW a0 (fun x1 w =>
 addW 17 x1 (fun x2 w =>
 load1W x2 (fun x3 w =>
 notW x3 (fun x4 w =>
 condP x4 (fun w => K (Value.int .u64 0) w) (fun w => nilW a0 (fun x5 w =>
 addW 16 x5 (fun x6 w =>
 load1W x6 (fun x7 w =>
 binIntW .add x7 (Value.int .u64 1) (fun x8 w =>
 K x8 w) w) w) w) w) w) w) w) w) w

theorem Q_commit_Commit_Stamp (a0 : Value) (K : KV) : S_commit_Commit_Stamp a0 K = P_commit_Commit_Stamp a0 K := by
  unfold S_commit_Commit_Stamp P_commit_Commit_Stamp
  generalize @addW = y_addW
  generalize @binIntW = y_binIntW
  generalize @condP = y_condP
  generalize @load1W = y_load1W
  generalize @nilW = y_nilW
  generalize @notW = y_notW
  rfl

/-- mem_Mem_Now -/
def P_mem_Mem_Now (a0 : Value) (K : KV) : World → Prop := fun w =>
 nilW a0 (fun x1 w =>
 addW 7 x1 (fun x2 w =>
 load1W x2 (fun x3 w =>
 CP Tryz.prog Fn.clock_Clock_Load [x3] (fun x4 w =>
 K x4 w) w) w) w) w

theorem Q_mem_Mem_Now (a0 : Value) (K : KV) : S_mem_Mem_Now a0 K = P_mem_Mem_Now a0 K := by
  unfold S_mem_Mem_Now P_mem_Mem_Now
  generalize @CP = y_CP
  generalize @addW = y_addW
  generalize @load1W = y_load1W
  generalize @nilW = y_nilW
  rfl

/-- ref1_Shape -/
def P_ref1_Shape (a0 : Value) (K : KV) : World → Prop := fun w =>
 boxW a0 (fun x1 w =>
 newW #[(Value.int .i64 0), (Value.int .i64 0), (Value.int .i64 0), (Value.int .i64 0), (Value.int .u64 0)] (fun x2 w =>
 addW 0 x1 (fun x3 w =>
 load1W x3 (fun x4 w =>
 CP Tryz.prog Fn.ref1_Held [x4, (Value.int .i64 32), (Value.int .i64 256)] (fun x5 w =>
 addW 0 x1 (fun x6 w =>
 storeW 1 x6 x5 (fun _ w =>
 addW 1 x1 (fun x8 w =>
 load1W x8 (fun x9 w =>
 CP Tryz.prog Fn.ref1_Held [x9, (Value.int .i64 1), (Value.int .i64 16)] (fun x10 w =>
 addW 1 x1 (fun x11 w =>
 storeW 1 x11 x10 (fun _ w =>
 addW 2 x1 (fun x13 w =>
 load1W x13 (fun x14 w =>
 CP Tryz.prog Fn.ref1_Held [x14, (Value.int .i64 1), (Value.int .i64 16)] (fun x15 w =>
 addW 2 x1 (fun x16 w =>
 storeW 1 x16 x15 (fun _ w =>
 addW 3 x1 (fun x18 w =>
 load1W x18 (fun x19 w =>
 CP Tryz.prog Fn.ref1_Held [x19, (Value.int .i64 1), (Value.int .i64 4)] (fun x20 w =>
 addW 3 x1 (fun x21 w =>
 storeW 1 x21 x20 (fun _ w =>
 addW 4 x1 (fun x23 w =>
 load1W x23 (fun x24 w =>
 binIntW .geq x24 (Value.int .u64 4611686018427387904) (fun x25 w =>
 joinW0 (fun  w =>
 loadNW 5 x1 (fun x26 w =>
 storeW 5 x2 x26 (fun _ w =>
 loadNW 5 x2 (fun x28 w =>
 K x28 w) w) w) w) (fun j1 w =>
 condP x25 (fun w => addW 4 x1 (fun x29 w =>
 storeW 1 x29 (Value.int .u64 4611686018427387903) (fun _ w =>
 j1  w) w) w) (fun w => j1  w) w) w) w) w) w) w) w) w) w) w) w) w) w) w) w) w) w) w) w) w) w) w) w) w) w) w) w

theorem Q_ref1_Shape (a0 : Value) (K : KV) : S_ref1_Shape a0 K = P_ref1_Shape a0 K := by
  unfold S_ref1_Shape P_ref1_Shape
  generalize @CP = y_CP
  generalize @addW = y_addW
  generalize @binIntW = y_binIntW
  generalize @boxW = y_boxW
  generalize @condP = y_condP
  generalize @joinW0 = y_joinW0
  generalize @load1W = y_load1W
  generalize @loadNW = y_loadNW
  generalize @newW = y_newW
  generalize @storeW = y_storeW
  rfl

/-- book_Within -/
def P_book_Within (a0 a1 a2 : Value) (K : KV) : World → Prop := fun w =>
 binIntW .sub a2 a1 (fun x1 w =>
 binIntW .add x1 (Value.int .i64 1) (fun x2 w =>
 binIntW .rem a0 x2 (fun x3 w =>
 binIntW .lss x3 (Value.int .i64 0) (fun x4 w =>
 joinW1 (fun x5 w =>
 binIntW .add a1 x5 (fun x6 w =>
 K x6 w) w) (fun j1 w =>
 condP x4 (fun w => binIntW .add x3 a2 (fun x7 w =>
 binIntW .sub x7 a1 (fun x8 w =>
 binIntW .add x8 (Value.int .i64 1) (fun x9 w =>
 j1 x9 w) w) w) w) (fun w => j1 x3 w) w) w) w) w) w) w

theorem Q_book_Within (a0 a1 a2 : Value) (K : KV) : S_book_Within a0 a1 a2 K = P_book_Within a0 a1 a2 K := by
  unfold S_book_Within P_book_Within
  generalize @binIntW = y_binIntW
  generalize @condP = y_condP
  generalize @joinW1 = y_joinW1
  rfl

/-- patience_New -/
def P_patience_New (a0 a1 : Value) (K : KV) : World → Prop := fun w =>
 newW #[(Value.int .i64 0), (Value.int .i64 0), (Value.int .i64 0), (Value.int .i64 0), (Value.int .i64 0)] (fun x1 w =>
 minW a1 [(Value.int .i64 4)] (fun x2 w =>
 maxW (Value.int .i64 0) [x2] (fun x3 w =>
 buildW [(Value.int .i64 0), (Value.int .i64 0), (Value.int .i64 0), (Value.int .i64 0), (Value.int .i64 0)] [(0, 1, a0), (1, 1, x3), (3, 1, (Value.int .i64 (-1)))] (fun x4 w =>
 storeW 5 x1 x4 (fun _ w =>
 loadNW 5 x1 (fun x6 w =>
 K x6 w) w) w) w) w) w) w

theorem Q_patience_New (a0 a1 : Value) (K : KV) : S_patience_New a0 a1 K = P_patience_New a0 a1 K := by
  unfold S_patience_New P_patience_New
  generalize @buildW = y_buildW
  generalize @loadNW = y_loadNW
  generalize @maxW = y_maxW
  generalize @minW = y_minW
  generalize @newW = y_newW
  generalize @storeW = y_storeW
  rfl

/-- slices_Clone_api_Seen_api_Seen -/
def P_slices_Clone_api_Seen_api_Seen (a0 : Value) (K : KV) : World → Prop := fun w =>
 eqNilSliceW .eql a0 (Value.slice none 0 0) (fun x1 w =>
 condP x1 (fun w => K (Value.slice none 0 0) w) (fun w => buildSliceW [(Value.int .i64 0), (Value.int .u64 0)] 0 [] (fun x2 w =>
 appendW 2 16 x2 a0 (fun x3 w =>
 K x3 w) w) w) w) w

theorem Q_slices_Clone_api_Seen_api_Seen (a0 : Value) (K : KV) : S_slices_Clone_api_Seen_api_Seen a0 K = P_slices_Clone_api_Seen_api_Seen a0 K := by
  unfold S_slices_Clone_api_Seen_api_Seen P_slices_Clone_api_Seen_api_Seen
  generalize @appendW = y_appendW
  generalize @buildSliceW = y_buildSliceW
  generalize @condP = y_condP
  generalize @eqNilSliceW = y_eqNilSliceW
  rfl

/-- slices_Clone_api_Cell_api_Cell -/
def P_slices_Clone_api_Cell_api_Cell (a0 : Value) (K : KV) : World → Prop := fun w =>
 eqNilSliceW .eql a0 (Value.slice none 0 0) (fun x1 w =>
 condP x1 (fun w => K (Value.slice none 0 0) w) (fun w => buildSliceW [(Value.int .i64 0), (Value.int .u64 0)] 0 [] (fun x2 w =>
 appendW 2 16 x2 a0 (fun x3 w =>
 K x3 w) w) w) w) w

theorem Q_slices_Clone_api_Cell_api_Cell (a0 : Value) (K : KV) : S_slices_Clone_api_Cell_api_Cell a0 K = P_slices_Clone_api_Cell_api_Cell a0 K := by
  unfold S_slices_Clone_api_Cell_api_Cell P_slices_Clone_api_Cell_api_Cell
  generalize @appendW = y_appendW
  generalize @buildSliceW = y_buildSliceW
  generalize @condP = y_condP
  generalize @eqNilSliceW = y_eqNilSliceW
  rfl

/-- writes_Stripes -/
def P_writes_Stripes (a0 a1 a2 : Value) (K : KV) : World → Prop := fun w =>
 lenW a0 (fun x1 w =>
 loopW2 (Value.slice none 0 0) (Value.int .i64 0) (fun J1 x2 x3 w =>
 binIntW .lss x3 x1 (fun x4 w =>
 condP x4 (fun w => idxW 2 a0 x3 (fun x5 w =>
 loadNW 2 x5 (fun x6 w =>
 newW #[(Value.int .i64 0), (Value.int .u64 0)] (fun x7 w =>
 storeW 2 x7 x6 (fun _ w =>
 addW 0 x7 (fun x9 w =>
 load1W x9 (fun x10 w =>
 CP Tryz.prog Fn.stripe_Of [x10, a1, a2] (fun x11 w =>
 binIntW .geq x11 (Value.int .i64 0) (fun x12 w =>
 joinW1 (fun x13 w =>
 binIntW .add x3 (Value.int .i64 1) (fun x14 w =>
 J1 x13 x14 w) w) (fun j1 w =>
 condP x12 (fun w => buildSliceW [(Value.int .i64 0)] 1 [(0, 1, x11)] (fun x15 w =>
 appendW 1 8 x2 x15 (fun x16 w =>
 j1 x16 w) w) w) (fun w => j1 x2 w) w) w) w) w) w) w) w) w) w) w) (fun w => CP Tryz.prog Fn.slices_Sort_int_int [x2] (fun x17 w =>
 CP Tryz.prog Fn.slices_Compact_int_int [x2] (fun x18 w =>
 K x18 w) w) w) w) w) w) w

theorem Q_writes_Stripes (a0 a1 a2 : Value) (K : KV) : S_writes_Stripes a0 a1 a2 K = P_writes_Stripes a0 a1 a2 K := by
  unfold S_writes_Stripes P_writes_Stripes
  generalize @CP = y_CP
  generalize @addW = y_addW
  generalize @appendW = y_appendW
  generalize @binIntW = y_binIntW
  generalize @buildSliceW = y_buildSliceW
  generalize @condP = y_condP
  generalize @idxW = y_idxW
  generalize @joinW1 = y_joinW1
  generalize @lenW = y_lenW
  generalize @load1W = y_load1W
  generalize @loadNW = y_loadNW
  generalize @loopW2 = y_loopW2
  generalize @newW = y_newW
  generalize @storeW = y_storeW
  rfl

/-- commit_Commit_more -/
def P_commit_Commit_more (a0 : Value) (K : KV) : World → Prop := fun w =>
 nilW a0 (fun x1 w =>
 addW 11 x1 (fun x2 w =>
 storeW 1 x2 (Value.int .i64 0) (fun _ w =>
 drewW (fun w => nilW a0 (fun x4 w =>
 addW 10 x4 (fun x5 w =>
 load1W x5 (fun x6 w =>
 lenW x6 (fun x7 w =>
 nilW a0 (fun x8 w =>
 addW 9 x8 (fun x9 w =>
 load1W x9 (fun x10 w =>
 lenW x10 (fun x11 w =>
 binIntW .eql x7 x11 (fun x12 w =>
 joinW0 (fun  w =>
 K (Value.tuple #[]) w) (fun j1 w =>
 condP x12 (fun w => nilW a0 (fun x13 w =>
 addW 11 x13 (fun x14 w =>
 storeW 1 x14 (Value.int .i64 2) (fun _ w =>
 j1  w) w) w) w) (fun w => j1  w) w) w) w) w) w) w) w) w) w) w) w) w) w) w) w

theorem Q_commit_Commit_more (a0 : Value) (K : KV) : S_commit_Commit_more a0 K = P_commit_Commit_more a0 K := by
  unfold S_commit_Commit_more P_commit_Commit_more
  generalize @addW = y_addW
  generalize @binIntW = y_binIntW
  generalize @condP = y_condP
  generalize @drewW = y_drewW
  generalize @joinW0 = y_joinW0
  generalize @lenW = y_lenW
  generalize @load1W = y_load1W
  generalize @nilW = y_nilW
  generalize @storeW = y_storeW
  rfl

/-- ref23_begin -/
def P_ref23_begin (a0 a1 : Value) (K : KV) : World → Prop := fun w =>
 newW #[(Value.int .i64 0), (Value.int .i64 0), (Value.int .i64 0), (Value.int .i64 0), (Value.int .i64 0)] (fun x1 w =>
 CP Tryz.prog Fn.ref1_Held [a1, (Value.int .i64 0), (Value.int .i64 4)] (fun x2 w =>
 buildW [(Value.int .i64 0), (Value.int .i64 0), (Value.int .i64 0), (Value.int .i64 0), (Value.int .i64 0)] [(0, 1, a0), (1, 1, x2), (4, 1, (Value.int .i64 (-1)))] (fun x3 w =>
 storeW 5 x1 x3 (fun _ w =>
 loadNW 5 x1 (fun x5 w =>
 K x5 w) w) w) w) w) w

theorem Q_ref23_begin (a0 a1 : Value) (K : KV) : S_ref23_begin a0 a1 K = P_ref23_begin a0 a1 K := by
  unfold S_ref23_begin P_ref23_begin
  generalize @CP = y_CP
  generalize @buildW = y_buildW
  generalize @loadNW = y_loadNW
  generalize @newW = y_newW
  generalize @storeW = y_storeW
  rfl

/-- ref7_Stripes -/
def P_ref7_Stripes (a0 a1 a2 : Value) (K : KV) : World → Prop := fun w =>
 newW #[(Value.bool false), (Value.bool false), (Value.bool false), (Value.bool false), (Value.bool false), (Value.bool false), (Value.bool false), (Value.bool false), (Value.bool false), (Value.bool false), (Value.bool false), (Value.bool false), (Value.bool false), (Value.bool false), (Value.bool false), (Value.bool false)] (fun x1 w =>
 loopW1 (Value.int .i64 0) (fun J1 x2 w =>
 lenW a0 (fun x3 w =>
 binIntW .lss x2 x3 (fun x4 w =>
 condP x4 (fun w => idxW 2 a0 x2 (fun x5 w =>
 addW 0 x5 (fun x6 w =>
 load1W x6 (fun x7 w =>
 CP Tryz.prog Fn.ref1_Of [x7, a1, a2] (fun x8 w =>
 binIntW .geq x8 (Value.int .i64 0) (fun x9 w =>
 joinW0 (fun  w =>
 binIntW .add x2 (Value.int .i64 1) (fun x10 w =>
 J1 x10 w) w) (fun j1 w =>
 condP x9 (fun w => idxArrW 16 1 x1 x8 (fun x11 w =>
 storeW 1 x11 (Value.bool true) (fun _ w =>
 j1  w) w) w) (fun w => j1  w) w) w) w) w) w) w) w) (fun w => loopW2 (Value.slice none 0 0) (Value.int .i64 0) (fun J2 x13 x14 w =>
 binIntW .lss x14 (Value.int .i64 16) (fun x15 w =>
 condP x15 (fun w => idxArrW 16 1 x1 x14 (fun x16 w =>
 load1W x16 (fun x17 w =>
 joinW1 (fun x18 w =>
 binIntW .add x14 (Value.int .i64 1) (fun x19 w =>
 J2 x18 x19 w) w) (fun j2 w =>
 condP x17 (fun w => buildSliceW [(Value.int .i64 0)] 1 [(0, 1, x14)] (fun x20 w =>
 appendW 1 8 x13 x20 (fun x21 w =>
 j2 x21 w) w) w) (fun w => j2 x13 w) w) w) w) w) (fun w => K x13 w) w) w) w) w) w) w) w) w

theorem Q_ref7_Stripes (a0 a1 a2 : Value) (K : KV) : S_ref7_Stripes a0 a1 a2 K = P_ref7_Stripes a0 a1 a2 K := by
  unfold S_ref7_Stripes P_ref7_Stripes
  generalize @CP = y_CP
  generalize @addW = y_addW
  generalize @appendW = y_appendW
  generalize @binIntW = y_binIntW
  generalize @buildSliceW = y_buildSliceW
  generalize @condP = y_condP
  generalize @idxArrW = y_idxArrW
  generalize @idxW = y_idxW
  generalize @joinW0 = y_joinW0
  generalize @joinW1 = y_joinW1
  generalize @lenW = y_lenW
  generalize @load1W = y_load1W
  generalize @loopW1 = y_loopW1
  generalize @loopW2 = y_loopW2
  generalize @newW = y_newW
  generalize @storeW = y_storeW
  rfl

/-- patience_Patience_End -/
def P_patience_Patience_End (a0 : Value) (K : KV) : World → Prop := fun w =>
 nilW a0 (fun x1 w =>
 addW 2 x1 (fun x2 w =>
 load1W x2 (fun x3 w =>
 K x3 w) w) w) w

theorem Q_patience_Patience_End (a0 : Value) (K : KV) : S_patience_Patience_End a0 K = P_patience_Patience_End a0 K := by
  unfold S_patience_Patience_End P_patience_Patience_End
  generalize @addW = y_addW
  generalize @load1W = y_load1W
  generalize @nilW = y_nilW
  rfl

/-- patience_Patience_Err -/
def P_patience_Patience_Err (a0 : Value) (K : KV) : World → Prop := fun w =>
 nilW a0 (fun x1 w =>
 addW 4 x1 (fun x2 w =>
 load1W x2 (fun x3 w =>
 K x3 w) w) w) w

theorem Q_patience_Patience_Err (a0 : Value) (K : KV) : S_patience_Patience_Err a0 K = P_patience_Patience_Err a0 K := by
  unfold S_patience_Patience_Err P_patience_Patience_Err
  generalize @addW = y_addW
  generalize @load1W = y_load1W
  generalize @nilW = y_nilW
  rfl

/-- patience_Patience_By -/
def P_patience_Patience_By (a0 : Value) (K : KV) : World → Prop := fun w =>
 nilW a0 (fun x1 w =>
 addW 3 x1 (fun x2 w =>
 load1W x2 (fun x3 w =>
 K x3 w) w) w) w

theorem Q_patience_Patience_By (a0 : Value) (K : KV) : S_patience_Patience_By a0 K = P_patience_Patience_By a0 K := by
  unfold S_patience_Patience_By P_patience_Patience_By
  generalize @addW = y_addW
  generalize @load1W = y_load1W
  generalize @nilW = y_nilW
  rfl

/-- patience_Patience_Stopped -/
def P_patience_Patience_Stopped (a0 a1 : Value) (K : KV) : World → Prop := fun w =>
 boxW a1 (fun x1 w =>
 nilW a0 (fun x2 w =>
 addW 2 x2 (fun x3 w =>
 load1W x3 (fun x4 w =>
 binIntW .eql x4 (Value.int .i64 0) (fun x5 w =>
 gW x5 true (fun K w => addW 5 x1 K w) (fun x6 w =>
 gW x5 true (fun K w => load1W x6 K w) (fun x7 w =>
 gW x5 true (fun K w => binIntW .neq x7 (Value.int .i64 0) K w) (fun x8 w =>
 pickW x5 x8 (Value.bool false) (fun x9 w =>
 joinW0 (fun  w =>
 nilW a0 (fun x10 w =>
 addW 2 x10 (fun x11 w =>
 load1W x11 (fun x12 w =>
 binIntW .neq x12 (Value.int .i64 0) (fun x13 w =>
 K x13 w) w) w) w) w) (fun j1 w =>
 condP x9 (fun w => addW 5 x1 (fun x14 w =>
 load1W x14 (fun x15 w =>
 CP Tryz.prog Fn.patience_Patience_Stop [a0, (Value.int .i64 4), x15, (Value.int .i64 (-1))] (fun x16 w =>
 j1  w) w) w) w) (fun w => j1  w) w) w) w) w) w) w) w) w) w) w) w

theorem Q_patience_Patience_Stopped (a0 a1 : Value) (K : KV) : S_patience_Patience_Stopped a0 a1 K = P_patience_Patience_Stopped a0 a1 K := by
  unfold S_patience_Patience_Stopped P_patience_Patience_Stopped
  generalize @CP = y_CP
  generalize @addW = y_addW
  generalize @binIntW = y_binIntW
  generalize @boxW = y_boxW
  generalize @condP = y_condP
  generalize @gW = y_gW
  generalize @joinW0 = y_joinW0
  generalize @load1W = y_load1W
  generalize @nilW = y_nilW
  generalize @pickW = y_pickW
  rfl

/-- commit_Commit_take -/
def P_commit_Commit_take (a0 a1 : Value) (K : KV) : World → Prop := fun w =>
 boxW a1 (fun x1 w =>
 nilW a0 (fun x2 w =>
 addW 11 x2 (fun x3 w =>
 load1W x3 (fun x4 w =>
 binIntW .eql x4 (Value.int .i64 0) (fun x5 w =>
 gW x5 true (fun K w => addW 1 x1 K w) (fun x6 w =>
 gW x5 true (fun K w => addW 1 x6 K w) (fun x7 w =>
 gW x5 true (fun K w => load1W x7 K w) (fun x8 w =>
 pickW x5 x8 (Value.bool false) (fun x9 w =>
 joinW0 (fun  w =>
 K (Value.tuple #[]) w) (fun j1 w =>
 condP x9 (fun w => addW 1 x1 (fun x10 w =>
 loadNW 3 x10 (fun x11 w =>
 CP Tryz.prog Fn.commit_Commit_held [a0, x11] (fun x12 w =>
 j1  w) w) w) w) (fun w => nilW a0 (fun x13 w =>
 addW 11 x13 (fun x14 w =>
 load1W x14 (fun x15 w =>
 binIntW .eql x15 (Value.int .i64 0) (fun x16 w =>
 joinW0 (fun  w =>
 j1  w) (fun j2 w =>
 condP x16 (fun w => addW 1 x1 (fun x17 w =>
 loadNW 3 x17 (fun x18 w =>
 nilW a0 (fun x19 w =>
 addW 13 x19 (fun x20 w =>
 storeW 3 x20 x18 (fun _ w =>
 nilW a0 (fun x22 w =>
 addW 11 x22 (fun x23 w =>
 storeW 1 x23 (Value.int .i64 1) (fun _ w =>
 j2  w) w) w) w) w) w) w) w) w) (fun w => addW 4 x1 (fun x25 w =>
 load1W x25 (fun x26 w =>
 joinW0 (fun  w =>
 j2  w) (fun j3 w =>
 condP x26 (fun w => drewW (fun w => nilW a0 (fun x27 w =>
 addW 10 x27 (fun x28 w =>
 load1W x28 (fun x29 w =>
 nilW a0 (fun x30 w =>
 addW 13 x30 (fun x31 w =>
 loadNW 3 x31 (fun x32 w =>
 buildSliceW [(Value.int .u64 0), (Value.bool false), (Value.int .i64 0)] 1 [(0, 3, x32)] (fun x33 w =>
 andP (fun w => andP (fun w => trueP w) (fun w => andP (fun w => load1W x28 (fun v w => eqP v x29 w) w) (fun w => trueP w) w) w) (fun w =>
 appendW 3 24 x29 x33 (fun x34 w =>
 andP (fun w => andP (fun w => trueP w) (fun w => trueP w) w) (fun w =>
 nilW a0 (fun x35 w =>
 addW 10 x35 (fun x36 w =>
 storeW 1 x36 x34 (fun _ w =>
 andP (fun w => trueP w) (fun w =>
 CP Tryz.prog Fn.commit_Commit_more [a0] (fun x38 w =>
 j3  w) w) w) w) w) w) w) w) w) w) w) w) w) w) w) w) w) (fun w => nilW a0 (fun x39 w =>
 addW 11 x39 (fun x40 w =>
 storeW 1 x40 (Value.int .i64 0) (fun _ w =>
 j3  w) w) w) w) w) w) w) w) w) w) w) w) w) w) w) w) w) w) w) w) w) w) w) w) w

theorem Q_commit_Commit_take (a0 a1 : Value) (K : KV) : S_commit_Commit_take a0 a1 K = P_commit_Commit_take a0 a1 K := by
  unfold S_commit_Commit_take P_commit_Commit_take
  generalize @CP = y_CP
  generalize @addW = y_addW
  generalize @andP = y_andP
  generalize @appendW = y_appendW
  generalize @binIntW = y_binIntW
  generalize @boxW = y_boxW
  generalize @buildSliceW = y_buildSliceW
  generalize @condP = y_condP
  generalize @drewW = y_drewW
  generalize @eqP = y_eqP
  generalize @gW = y_gW
  generalize @joinW0 = y_joinW0
  generalize @load1W = y_load1W
  generalize @loadNW = y_loadNW
  generalize @nilW = y_nilW
  generalize @pickW = y_pickW
  generalize @storeW = y_storeW
  rfl

/-- commit_Commit_raise -/
def P_commit_Commit_raise (a0 a1 : Value) (K : KV) : World → Prop := fun w =>
 boxW a1 (fun x1 w =>
 nilW a0 (fun x2 w =>
 addW 11 x2 (fun x3 w =>
 load1W x3 (fun x4 w =>
 binIntW .eql x4 (Value.int .i64 2) (fun x5 w =>
 gW x5 true (fun K w => addW 0 x1 K w) (fun x6 w =>
 gW x5 true (fun K w => load1W x6 K w) (fun x7 w =>
 gW x5 true (fun K w => binIntW .geq x7 (Value.int .u64 4611686018427387903) K w) (fun x8 w =>
 pickW x5 x8 (Value.bool false) (fun x9 w =>
 joinW0 (fun  w =>
 K (Value.tuple #[]) w) (fun j1 w =>
 condP x9 (fun w => CP Tryz.prog Fn.commit_Commit_stop [a0, (Value.int .i64 4), (Value.int .i64 7), (Value.int .i64 (-1))] (fun x10 w =>
 j1  w) w) (fun w => nilW a0 (fun x11 w =>
 addW 11 x11 (fun x12 w =>
 load1W x12 (fun x13 w =>
 binIntW .eql x13 (Value.int .i64 2) (fun x14 w =>
 joinW0 (fun  w =>
 j1  w) (fun j2 w =>
 condP x14 (fun w => addW 0 x1 (fun x15 w =>
 load1W x15 (fun x16 w =>
 nilW a0 (fun x17 w =>
 addW 16 x17 (fun x18 w =>
 storeW 1 x18 x16 (fun _ w =>
 nilW a0 (fun x20 w =>
 addW 11 x20 (fun x21 w =>
 storeW 1 x21 (Value.int .i64 3) (fun _ w =>
 j2  w) w) w) w) w) w) w) w) w) (fun w => addW 4 x1 (fun x23 w =>
 load1W x23 (fun x24 w =>
 notW x24 (fun x25 w =>
 joinW0 (fun  w =>
 j2  w) (fun j3 w =>
 condP x25 (fun w => nilW a0 (fun x26 w =>
 addW 11 x26 (fun x27 w =>
 storeW 1 x27 (Value.int .i64 2) (fun _ w =>
 j3  w) w) w) w) (fun w => drewW (fun w => nilW a0 (fun x29 w =>
 addW 16 x29 (fun x30 w =>
 load1W x30 (fun x31 w =>
 nilW a0 (fun x32 w =>
 addW 6 x32 (fun x33 w =>
 load1W x33 (fun x34 w =>
 binIntW .eql x31 x34 (fun x35 w =>
 joinW0 (fun  w =>
 j3  w) (fun j4 w =>
 condP x35 (fun w => CP Tryz.prog Fn.commit_Commit_begin [a0] (fun x36 w =>
 j4  w) w) (fun w => CP Tryz.prog Fn.commit_Commit_prove [a0] (fun x37 w =>
 j4  w) w) w) w) w) w) w) w) w) w) w) w) w) w) w) w) w) w) w) w) w) w) w) w) w) w) w) w) w) w) w) w) w) w

theorem Q_commit_Commit_raise (a0 a1 : Value) (K : KV) : S_commit_Commit_raise a0 a1 K = P_commit_Commit_raise a0 a1 K := by
  unfold S_commit_Commit_raise P_commit_Commit_raise
  generalize @CP = y_CP
  generalize @addW = y_addW
  generalize @binIntW = y_binIntW
  generalize @boxW = y_boxW
  generalize @condP = y_condP
  generalize @drewW = y_drewW
  generalize @gW = y_gW
  generalize @joinW0 = y_joinW0
  generalize @load1W = y_load1W
  generalize @nilW = y_nilW
  generalize @notW = y_notW
  generalize @pickW = y_pickW
  generalize @storeW = y_storeW
  rfl

/-- commit_Commit_proved -/
def P_commit_Commit_proved (a0 a1 : Value) (K : KV) : World → Prop := fun w =>
 boxW a1 (fun x1 w =>
 addW 1 x1 (fun x2 w =>
 load1W x2 (fun x3 w =>
 joinW0 (fun  w =>
 K (Value.tuple #[]) w) (fun j1 w =>
 condP x3 (fun w => loadNW 3 x1 (fun x4 w =>
 CP Tryz.prog Fn.commit_Commit_held [a0, x4] (fun x5 w =>
 j1  w) w) w) (fun w => drewW (fun w => addW 0 x1 (fun x6 w =>
 load1W x6 (fun x7 w =>
 nilW a0 (fun x8 w =>
 addW 7 x8 (fun x9 w =>
 load1W x9 (fun x10 w =>
 nilW a0 (fun x11 w =>
 addW 12 x11 (fun x12 w =>
 load1W x12 (fun x13 w =>
 idxW 2 x10 x13 (fun x14 w =>
 addW 1 x14 (fun x15 w =>
 load1W x15 (fun x16 w =>
 binIntW .neq x7 x16 (fun x17 w =>
 joinW0 (fun  w =>
 j1  w) (fun j2 w =>
 condP x17 (fun w => CP Tryz.prog Fn.commit_Commit_stop [a0, (Value.int .i64 5), (Value.int .i64 0), (Value.int .i64 (-1))] (fun x18 w =>
 j2  w) w) (fun w => nilW a0 (fun x19 w =>
 addW 12 x19 (fun x20 w =>
 load1W x20 (fun x21 w =>
 binIntW .add x21 (Value.int .i64 1) (fun x22 w =>
 nilW a0 (fun x23 w =>
 addW 12 x23 (fun x24 w =>
 storeW 1 x24 x22 (fun _ w =>
 CP Tryz.prog Fn.commit_Commit_prove [a0] (fun x26 w =>
 j2  w) w) w) w) w) w) w) w) w) w) w) w) w) w) w) w) w) w) w) w) w) w) w) w) w) w) w) w) w

theorem Q_commit_Commit_proved (a0 a1 : Value) (K : KV) : S_commit_Commit_proved a0 a1 K = P_commit_Commit_proved a0 a1 K := by
  unfold S_commit_Commit_proved P_commit_Commit_proved
  generalize @CP = y_CP
  generalize @addW = y_addW
  generalize @binIntW = y_binIntW
  generalize @boxW = y_boxW
  generalize @condP = y_condP
  generalize @drewW = y_drewW
  generalize @idxW = y_idxW
  generalize @joinW0 = y_joinW0
  generalize @load1W = y_load1W
  generalize @loadNW = y_loadNW
  generalize @nilW = y_nilW
  generalize @storeW = y_storeW
  rfl

/-- commit_Commit_write -/
def P_commit_Commit_write (a0 : Value) (K : KV) : World → Prop := fun w =>
 drewW (fun w => nilW a0 (fun x1 w =>
 addW 12 x1 (fun x2 w =>
 load1W x2 (fun x3 w =>
 nilW a0 (fun x4 w =>
 addW 8 x4 (fun x5 w =>
 load1W x5 (fun x6 w =>
 lenW x6 (fun x7 w =>
 binIntW .eql x3 x7 (fun x8 w =>
 joinW0 (fun  w =>
 K (Value.tuple #[]) w) (fun j1 w =>
 condP x8 (fun w => nilW a0 (fun x9 w =>
 addW 12 x9 (fun x10 w =>
 storeW 1 x10 (Value.int .i64 0) (fun _ w =>
 nilW a0 (fun x12 w =>
 addW 11 x12 (fun x13 w =>
 storeW 1 x13 (Value.int .i64 6) (fun _ w =>
 CP Tryz.prog Fn.commit_Commit_give [a0] (fun x15 w =>
 j1  w) w) w) w) w) w) w) w) (fun w => j1  w) w) w) w) w) w) w) w) w) w) w) w

theorem Q_commit_Commit_write (a0 : Value) (K : KV) : S_commit_Commit_write a0 K = P_commit_Commit_write a0 K := by
  unfold S_commit_Commit_write P_commit_Commit_write
  generalize @CP = y_CP
  generalize @addW = y_addW
  generalize @binIntW = y_binIntW
  generalize @condP = y_condP
  generalize @drewW = y_drewW
  generalize @joinW0 = y_joinW0
  generalize @lenW = y_lenW
  generalize @load1W = y_load1W
  generalize @nilW = y_nilW
  generalize @storeW = y_storeW
  rfl

/-- commit_Commit_give -/
def P_commit_Commit_give (a0 : Value) (K : KV) : World → Prop := fun w =>
 drewW (fun w => nilW a0 (fun x1 w =>
 addW 12 x1 (fun x2 w =>
 load1W x2 (fun x3 w =>
 nilW a0 (fun x4 w =>
 addW 9 x4 (fun x5 w =>
 load1W x5 (fun x6 w =>
 lenW x6 (fun x7 w =>
 binIntW .eql x3 x7 (fun x8 w =>
 joinW0 (fun  w =>
 K (Value.tuple #[]) w) (fun j1 w =>
 condP x8 (fun w => nilW a0 (fun x9 w =>
 addW 0 x9 (fun x10 w =>
 CP Tryz.prog Fn.patience_Patience_Stop [x10, (Value.int .i64 2), (Value.int .i64 0), (Value.int .i64 (-1))] (fun x11 w =>
 j1  w) w) w) w) (fun w => j1  w) w) w) w) w) w) w) w) w) w) w) w

theorem Q_commit_Commit_give (a0 : Value) (K : KV) : S_commit_Commit_give a0 K = P_commit_Commit_give a0 K := by
  unfold S_commit_Commit_give P_commit_Commit_give
  generalize @CP = y_CP
  generalize @addW = y_addW
  generalize @binIntW = y_binIntW
  generalize @condP = y_condP
  generalize @drewW = y_drewW
  generalize @joinW0 = y_joinW0
  generalize @lenW = y_lenW
  generalize @load1W = y_load1W
  generalize @nilW = y_nilW
  rfl

/-- commit_Commit_leave -/
def P_commit_Commit_leave (a0 : Value) (K : KV) : World → Prop := fun w =>
 drewW (fun w => nilW a0 (fun x1 w =>
 addW 12 x1 (fun x2 w =>
 load1W x2 (fun x3 w =>
 nilW a0 (fun x4 w =>
 addW 10 x4 (fun x5 w =>
 load1W x5 (fun x6 w =>
 lenW x6 (fun x7 w =>
 binIntW .eql x3 x7 (fun x8 w =>
 joinW0 (fun  w =>
 K (Value.tuple #[]) w) (fun j1 w =>
 condP x8 (fun w => drewW (fun w => nilW a0 (fun x9 w =>
 addW 0 x9 (fun x10 w =>
 nilW a0 (fun x11 w =>
 addW 18 x11 (fun x12 w =>
 load1W x12 (fun x13 w =>
 nilW a0 (fun x14 w =>
 addW 20 x14 (fun x15 w =>
 load1W x15 (fun x16 w =>
 nilW a0 (fun x17 w =>
 addW 19 x17 (fun x18 w =>
 load1W x18 (fun x19 w =>
 CP Tryz.prog Fn.patience_Patience_Stop [x10, x13, x16, x19] (fun x20 w =>
 andP (fun w => andP (fun w => trueP w) (fun w => andP (fun w => trueP w) (fun w => andP (fun w => trueP w) (fun w => trueP w) w) w) w) (fun w =>
 j1  w) w) w) w) w) w) w) w) w) w) w) w) w) w) w) (fun w => j1  w) w) w) w) w) w) w) w) w) w) w) w

theorem Q_commit_Commit_leave (a0 : Value) (K : KV) : S_commit_Commit_leave a0 K = P_commit_Commit_leave a0 K := by
  unfold S_commit_Commit_leave P_commit_Commit_leave
  generalize @CP = y_CP
  generalize @addW = y_addW
  generalize @andP = y_andP
  generalize @binIntW = y_binIntW
  generalize @condP = y_condP
  generalize @drewW = y_drewW
  generalize @joinW0 = y_joinW0
  generalize @lenW = y_lenW
  generalize @load1W = y_load1W
  generalize @nilW = y_nilW
  rfl

/-- ref23_Step_failed -/
def P_ref23_Step_failed (a0 a1 : Value) (K : KV) : World → Prop := fun w =>
 boxW a1 (fun x1 w =>
 addW 5 x1 (fun x2 w =>
 load1W x2 (fun x3 w =>
 binIntW .neq x3 (Value.int .i64 0) (fun x4 w =>
 joinW0 (fun  w =>
 addW 5 x1 (fun x5 w =>
 load1W x5 (fun x6 w =>
 binIntW .neq x6 (Value.int .i64 0) (fun x7 w =>
 K x7 w) w) w) w) (fun j1 w =>
 condP x4 (fun w => drewW (fun w => addW 5 x1 (fun x8 w =>
 load1W x8 (fun x9 w =>
 nilW a0 (fun x10 w =>
 addW 2 x10 (fun x11 w =>
 storeW 1 x11 (Value.int .i64 4) (fun _ w =>
 andP (fun w => andP (fun w => load1W x8 (fun v w => eqP v x9 w) w) (fun w => trueP w) w) (fun w =>
 nilW a0 (fun x13 w =>
 addW 3 x13 (fun x14 w =>
 storeW 1 x14 x9 (fun _ w =>
 andP (fun w => andP (fun w => trueP w) (fun w => trueP w) w) (fun w =>
 j1  w) w) w) w) w) w) w) w) w) w) w) w) (fun w => j1  w) w) w) w) w) w) w

theorem Q_ref23_Step_failed (a0 a1 : Value) (K : KV) : S_ref23_Step_failed a0 a1 K = P_ref23_Step_failed a0 a1 K := by
  unfold S_ref23_Step_failed P_ref23_Step_failed
  generalize @addW = y_addW
  generalize @andP = y_andP
  generalize @binIntW = y_binIntW
  generalize @boxW = y_boxW
  generalize @condP = y_condP
  generalize @drewW = y_drewW
  generalize @eqP = y_eqP
  generalize @joinW0 = y_joinW0
  generalize @load1W = y_load1W
  generalize @nilW = y_nilW
  generalize @storeW = y_storeW
  rfl

/-- ref23_Commit_locks -/
def P_ref23_Commit_locks (a0 a1 : Value) (K : KV) : World → Prop := fun w =>
 boxW a1 (fun x1 w =>
 nilW a0 (fun x2 w =>
 addW 13 x2 (fun x3 w =>
 load1W x3 (fun x4 w =>
 binIntW .eql x4 (Value.int .i64 1) (fun x5 w =>
 condP x5 (fun w => addW 4 x1 (fun x6 w =>
 load1W x6 (fun x7 w =>
 notW x7 (fun x8 w =>
 condP x8 (fun w => nilW a0 (fun x9 w =>
 addW 13 x9 (fun x10 w =>
 storeW 1 x10 (Value.int .i64 0) (fun _ w =>
 K (Value.tuple #[]) w) w) w) w) (fun w => drewW (fun w => nilW a0 (fun x12 w =>
 addW 9 x12 (fun x13 w =>
 load1W x13 (fun x14 w =>
 nilW a0 (fun x15 w =>
 addW 10 x15 (fun x16 w =>
 loadNW 3 x16 (fun x17 w =>
 buildSliceW [(Value.int .u64 0), (Value.bool false), (Value.int .i64 0)] 1 [(0, 3, x17)] (fun x18 w =>
 andP (fun w => andP (fun w => trueP w) (fun w => andP (fun w => load1W x13 (fun v w => eqP v x14 w) w) (fun w => trueP w) w) w) (fun w =>
 appendW 3 24 x14 x18 (fun x19 w =>
 andP (fun w => andP (fun w => trueP w) (fun w => trueP w) w) (fun w =>
 nilW a0 (fun x20 w =>
 addW 9 x20 (fun x21 w =>
 storeW 1 x21 x19 (fun _ w =>
 andP (fun w => trueP w) (fun w =>
 nilW a0 (fun x23 w =>
 addW 14 x23 (fun x24 w =>
 load1W x24 (fun x25 w =>
 binIntW .add x25 (Value.int .i64 1) (fun x26 w =>
 nilW a0 (fun x27 w =>
 addW 14 x27 (fun x28 w =>
 storeW 1 x28 x26 (fun _ w =>
 nilW a0 (fun x30 w =>
 addW 13 x30 (fun x31 w =>
 storeW 1 x31 (Value.int .i64 0) (fun _ w =>
 drewW (fun w => nilW a0 (fun x33 w =>
 addW 14 x33 (fun x34 w =>
 load1W x34 (fun x35 w =>
 nilW a0 (fun x36 w =>
 addW 8 x36 (fun x37 w =>
 load1W x37 (fun x38 w =>
 lenW x38 (fun x39 w =>
 binIntW .eql x35 x39 (fun x40 w =>
 joinW0 (fun  w =>
 K (Value.tuple #[]) w) (fun j1 w =>
 condP x40 (fun w => nilW a0 (fun x41 w =>
 addW 13 x41 (fun x42 w =>
 storeW 1 x42 (Value.int .i64 2) (fun _ w =>
 nilW a0 (fun x44 w =>
 addW 14 x44 (fun x45 w =>
 storeW 1 x45 (Value.int .i64 0) (fun _ w =>
 j1  w) w) w) w) w) w) w) (fun w => j1  w) w) w) w) w) w) w) w) w) w) w) w) w) w) w) w) w) w) w) w) w) w) w) w) w) w) w) w) w) w) w) w) w) w) w) w) w) w) w) w) w) (fun w => addW 1 x1 (fun x47 w =>
 addW 1 x47 (fun x48 w =>
 load1W x48 (fun x49 w =>
 condP x49 (fun w => drewW (fun w => nilW a0 (fun x50 w =>
 addW 0 x50 (fun x51 w =>
 addW 1 x1 (fun x52 w =>
 loadNW 3 x52 (fun x53 w =>
 CP Tryz.prog Fn.ref23_Step_held [x51, x53] (fun x54 w =>
 andP (fun w => andP (fun w => trueP w) (fun w => trueP w) w) (fun w =>
 notW x54 (fun x55 w =>
 joinW0 (fun  w =>
 K (Value.tuple #[]) w) (fun j2 w =>
 condP x55 (fun w => drewW (fun w => nilW a0 (fun x56 w =>
 addW 0 x56 (fun x57 w =>
 addW 2 x57 (fun x58 w =>
 load1W x58 (fun x59 w =>
 nilW a0 (fun x60 w =>
 addW 0 x60 (fun x61 w =>
 addW 3 x61 (fun x62 w =>
 load1W x62 (fun x63 w =>
 nilW a0 (fun x64 w =>
 addW 0 x64 (fun x65 w =>
 addW 4 x65 (fun x66 w =>
 load1W x66 (fun x67 w =>
 CP Tryz.prog Fn.ref23_Commit_out [a0, x59, x63, x67] (fun x68 w =>
 andP (fun w => andP (fun w => trueP w) (fun w => andP (fun w => trueP w) (fun w => andP (fun w => trueP w) (fun w => trueP w) w) w) w) (fun w =>
 j2  w) w) w) w) w) w) w) w) w) w) w) w) w) w) w) w) (fun w => j2  w) w) w) w) w) w) w) w) w) w) w) (fun w => nilW a0 (fun x69 w =>
 addW 13 x69 (fun x70 w =>
 load1W x70 (fun x71 w =>
 binIntW .eql x71 (Value.int .i64 0) (fun x72 w =>
 condP x72 (fun w => addW 1 x1 (fun x73 w =>
 loadNW 3 x73 (fun x74 w =>
 nilW a0 (fun x75 w =>
 addW 10 x75 (fun x76 w =>
 storeW 3 x76 x74 (fun _ w =>
 nilW a0 (fun x78 w =>
 addW 13 x78 (fun x79 w =>
 storeW 1 x79 (Value.int .i64 1) (fun _ w =>
 K (Value.tuple #[]) w) w) w) w) w) w) w) w) w) (fun w => drewW (fun w => addW 1 x1 (fun x81 w =>
 addW 0 x81 (fun x82 w =>
 load1W x82 (fun x83 w =>
 nilW a0 (fun x84 w =>
 addW 6 x84 (fun x85 w =>
 load1W x85 (fun x86 w =>
 nilW a0 (fun x87 w =>
 addW 14 x87 (fun x88 w =>
 load1W x88 (fun x89 w =>
 idxW 2 x86 x89 (fun x90 w =>
 addW 1 x90 (fun x91 w =>
 load1W x91 (fun x92 w =>
 binIntW .neq x83 x92 (fun x93 w =>
 condP x93 (fun w => CP Tryz.prog Fn.ref23_Commit_out [a0, (Value.int .i64 5), (Value.int .i64 0), (Value.int .i64 (-1))] (fun x94 w =>
 K (Value.tuple #[]) w) w) (fun w => nilW a0 (fun x95 w =>
 addW 14 x95 (fun x96 w =>
 load1W x96 (fun x97 w =>
 binIntW .add x97 (Value.int .i64 1) (fun x98 w =>
 nilW a0 (fun x99 w =>
 addW 14 x99 (fun x100 w =>
 storeW 1 x100 x98 (fun _ w =>
 CP Tryz.prog Fn.ref23_Commit_look [a0] (fun x102 w =>
 K (Value.tuple #[]) w) w) w) w) w) w) w) w) w) w) w) w) w) w) w) w) w) w) w) w) w) w) w) w) w) w) w) w) w) w) w) w) w) w) w) w) w) w) w

theorem Q_ref23_Commit_locks (a0 a1 : Value) (K : KV) : S_ref23_Commit_locks a0 a1 K = P_ref23_Commit_locks a0 a1 K := by
  unfold S_ref23_Commit_locks P_ref23_Commit_locks
  generalize @CP = y_CP
  generalize @addW = y_addW
  generalize @andP = y_andP
  generalize @appendW = y_appendW
  generalize @binIntW = y_binIntW
  generalize @boxW = y_boxW
  generalize @buildSliceW = y_buildSliceW
  generalize @condP = y_condP
  generalize @drewW = y_drewW
  generalize @eqP = y_eqP
  generalize @idxW = y_idxW
  generalize @joinW0 = y_joinW0
  generalize @lenW = y_lenW
  generalize @load1W = y_load1W
  generalize @loadNW = y_loadNW
  generalize @nilW = y_nilW
  generalize @notW = y_notW
  generalize @storeW = y_storeW
  rfl

/-- ref23_Commit_out -/
def P_ref23_Commit_out (a0 a1 a2 a3 : Value) (K : KV) : World → Prop := fun w =>
 nilW a0 (fun x1 w =>
 addW 0 x1 (fun x2 w =>
 addW 2 x2 (fun x3 w =>
 storeW 1 x3 a1 (fun _ w =>
 nilW a0 (fun x5 w =>
 addW 0 x5 (fun x6 w =>
 addW 3 x6 (fun x7 w =>
 storeW 1 x7 a2 (fun _ w =>
 nilW a0 (fun x9 w =>
 addW 0 x9 (fun x10 w =>
 addW 4 x10 (fun x11 w =>
 storeW 1 x11 a3 (fun _ w =>
 nilW a0 (fun x13 w =>
 addW 9 x13 (fun x14 w =>
 load1W x14 (fun x15 w =>
 lenW x15 (fun x16 w =>
 binIntW .gtr x16 (Value.int .i64 0) (fun x17 w =>
 joinW0 (fun  w =>
 K (Value.tuple #[]) w) (fun j1 w =>
 condP x17 (fun w => nilW a0 (fun x18 w =>
 addW 16 x18 (fun x19 w =>
 storeW 1 x19 a1 (fun _ w =>
 nilW a0 (fun x21 w =>
 addW 17 x21 (fun x22 w =>
 storeW 1 x22 a2 (fun _ w =>
 nilW a0 (fun x24 w =>
 addW 18 x24 (fun x25 w =>
 storeW 1 x25 a3 (fun _ w =>
 nilW a0 (fun x27 w =>
 addW 0 x27 (fun x28 w =>
 addW 2 x28 (fun x29 w =>
 storeW 1 x29 (Value.int .i64 0) (fun _ w =>
 nilW a0 (fun x31 w =>
 addW 0 x31 (fun x32 w =>
 addW 3 x32 (fun x33 w =>
 storeW 1 x33 (Value.int .i64 0) (fun _ w =>
 nilW a0 (fun x35 w =>
 addW 0 x35 (fun x36 w =>
 addW 4 x36 (fun x37 w =>
 storeW 1 x37 (Value.int .i64 (-1)) (fun _ w =>
 nilW a0 (fun x39 w =>
 addW 13 x39 (fun x40 w =>
 storeW 1 x40 (Value.int .i64 7) (fun _ w =>
 nilW a0 (fun x42 w =>
 addW 14 x42 (fun x43 w =>
 storeW 1 x43 (Value.int .i64 0) (fun _ w =>
 j1  w) w) w) w) w) w) w) w) w) w) w) w) w) w) w) w) w) w) w) w) w) w) w) w) w) w) w) w) (fun w => j1  w) w) w) w) w) w) w) w) w) w) w) w) w) w) w) w) w) w) w) w

theorem Q_ref23_Commit_out (a0 a1 a2 a3 : Value) (K : KV) : S_ref23_Commit_out a0 a1 a2 a3 K = P_ref23_Commit_out a0 a1 a2 a3 K := by
  unfold S_ref23_Commit_out P_ref23_Commit_out
  generalize @addW = y_addW
  generalize @binIntW = y_binIntW
  generalize @condP = y_condP
  generalize @joinW0 = y_joinW0
  generalize @lenW = y_lenW
  generalize @load1W = y_load1W
  generalize @nilW = y_nilW
  generalize @storeW = y_storeW
  rfl

/-- ref23_Commit_write -/
def P_ref23_Commit_write (a0 : Value) (K : KV) : World → Prop := fun w =>
 nilW a0 (fun x1 w =>
 addW 13 x1 (fun x2 w =>
 storeW 1 x2 (Value.int .i64 5) (fun _ w =>
 nilW a0 (fun x4 w =>
 addW 14 x4 (fun x5 w =>
 storeW 1 x5 (Value.int .i64 0) (fun _ w =>
 nilW a0 (fun x7 w =>
 addW 7 x7 (fun x8 w =>
 load1W x8 (fun x9 w =>
 lenW x9 (fun x10 w =>
 binIntW .eql x10 (Value.int .i64 0) (fun x11 w =>
 joinW0 (fun  w =>
 K (Value.tuple #[]) w) (fun j1 w =>
 condP x11 (fun w => CP Tryz.prog Fn.ref23_Commit_free [a0] (fun x12 w =>
 j1  w) w) (fun w => j1  w) w) w) w) w) w) w) w) w) w) w) w) w) w

theorem Q_ref23_Commit_write (a0 : Value) (K : KV) : S_ref23_Commit_write a0 K = P_ref23_Commit_write a0 K := by
  unfold S_ref23_Commit_write P_ref23_Commit_write
  generalize @CP = y_CP
  generalize @addW = y_addW
  generalize @binIntW = y_binIntW
  generalize @condP = y_condP
  generalize @joinW0 = y_joinW0
  generalize @lenW = y_lenW
  generalize @load1W = y_load1W
  generalize @nilW = y_nilW
  generalize @storeW = y_storeW
  rfl

/-- ref23_Commit_look -/
def P_ref23_Commit_look (a0 : Value) (K : KV) : World → Prop := fun w =>
 loopW0  (fun J1  w =>
 drewW (fun w => nilW a0 (fun x1 w =>
 addW 14 x1 (fun x2 w =>
 load1W x2 (fun x3 w =>
 nilW a0 (fun x4 w =>
 addW 6 x4 (fun x5 w =>
 load1W x5 (fun x6 w =>
 lenW x6 (fun x7 w =>
 binIntW .lss x3 x7 (fun x8 w =>
 condP x8 (fun w => drewW (fun w => nilW a0 (fun x9 w =>
 addW 6 x9 (fun x10 w =>
 load1W x10 (fun x11 w =>
 nilW a0 (fun x12 w =>
 addW 14 x12 (fun x13 w =>
 load1W x13 (fun x14 w =>
 idxW 2 x11 x14 (fun x15 w =>
 addW 0 x15 (fun x16 w =>
 load1W x16 (fun x17 w =>
 CP Tryz.prog Fn.ref23_Commit_own [a0, x17] (fun x18 w =>
 andP (fun w => andP (fun w => trueP w) (fun w => andP (fun w => trueP w) (fun w => andP (fun w => trueP w) (fun w => trueP w) w) w) w) (fun w =>
 extractW 0 x18 (fun x19 w =>
 extractW 1 x18 (fun x20 w =>
 notW x20 (fun x21 w =>
 condP x21 (fun w => K (Value.tuple #[]) w) (fun w => drewW (fun w => nilW a0 (fun x22 w =>
 addW 6 x22 (fun x23 w =>
 load1W x23 (fun x24 w =>
 nilW a0 (fun x25 w =>
 addW 14 x25 (fun x26 w =>
 load1W x26 (fun x27 w =>
 idxW 2 x24 x27 (fun x28 w =>
 addW 1 x28 (fun x29 w =>
 load1W x29 (fun x30 w =>
 binIntW .neq x19 x30 (fun x31 w =>
 condP x31 (fun w => CP Tryz.prog Fn.ref23_Commit_out [a0, (Value.int .i64 5), (Value.int .i64 0), (Value.int .i64 (-1))] (fun x32 w =>
 K (Value.tuple #[]) w) w) (fun w => nilW a0 (fun x33 w =>
 addW 14 x33 (fun x34 w =>
 load1W x34 (fun x35 w =>
 binIntW .add x35 (Value.int .i64 1) (fun x36 w =>
 nilW a0 (fun x37 w =>
 addW 14 x37 (fun x38 w =>
 storeW 1 x38 x36 (fun _ w =>
 J1  w) w) w) w) w) w) w) w) w) w) w) w) w) w) w) w) w) w) w) w) w) w) w) w) w) w) w) w) w) w) w) w) w) w) w) w) (fun w => CP Tryz.prog Fn.ref23_Commit_write [a0] (fun x40 w =>
 K (Value.tuple #[]) w) w) w) w) w) w) w) w) w) w) w) w) w

theorem Q_ref23_Commit_look (a0 : Value) (K : KV) : S_ref23_Commit_look a0 K = P_ref23_Commit_look a0 K := by
  unfold S_ref23_Commit_look P_ref23_Commit_look
  generalize @CP = y_CP
  generalize @addW = y_addW
  generalize @andP = y_andP
  generalize @binIntW = y_binIntW
  generalize @condP = y_condP
  generalize @drewW = y_drewW
  generalize @extractW = y_extractW
  generalize @idxW = y_idxW
  generalize @lenW = y_lenW
  generalize @load1W = y_load1W
  generalize @loopW0 = y_loopW0
  generalize @nilW = y_nilW
  generalize @notW = y_notW
  generalize @storeW = y_storeW
  rfl

/-- ref23_Commit_free -/
def P_ref23_Commit_free (a0 : Value) (K : KV) : World → Prop := fun w =>
 nilW a0 (fun x1 w =>
 addW 13 x1 (fun x2 w =>
 storeW 1 x2 (Value.int .i64 6) (fun _ w =>
 nilW a0 (fun x4 w =>
 addW 14 x4 (fun x5 w =>
 storeW 1 x5 (Value.int .i64 0) (fun _ w =>
 nilW a0 (fun x7 w =>
 addW 8 x7 (fun x8 w =>
 load1W x8 (fun x9 w =>
 lenW x9 (fun x10 w =>
 binIntW .eql x10 (Value.int .i64 0) (fun x11 w =>
 joinW0 (fun  w =>
 K (Value.tuple #[]) w) (fun j1 w =>
 condP x11 (fun w => nilW a0 (fun x12 w =>
 addW 0 x12 (fun x13 w =>
 addW 2 x13 (fun x14 w =>
 storeW 1 x14 (Value.int .i64 2) (fun _ w =>
 j1  w) w) w) w) w) (fun w => j1  w) w) w) w) w) w) w) w) w) w) w) w) w) w

theorem Q_ref23_Commit_free (a0 : Value) (K : KV) : S_ref23_Commit_free a0 K = P_ref23_Commit_free a0 K := by
  unfold S_ref23_Commit_free P_ref23_Commit_free
  generalize @addW = y_addW
  generalize @binIntW = y_binIntW
  generalize @condP = y_condP
  generalize @joinW0 = y_joinW0
  generalize @lenW = y_lenW
  generalize @load1W = y_load1W
  generalize @nilW = y_nilW
  generalize @storeW = y_storeW
  rfl

/-- mem_Held -/
def P_mem_Held (a0 : Value) (K : KV) : World → Prop := fun w =>
 boxW a0 (fun x1 w =>
 newW #[(Value.int .i64 0), (Value.int .i64 0), (Value.int .i64 0), (Value.int .i64 0), (Value.int .u64 0)] (fun x2 w =>
 addW 0 x1 (fun x3 w =>
 load1W x3 (fun x4 w =>
 minW x4 [(Value.int .i64 256)] (fun x5 w =>
 maxW (Value.int .i64 32) [x5] (fun x6 w =>
 addW 1 x1 (fun x7 w =>
 load1W x7 (fun x8 w =>
 minW x8 [(Value.int .i64 16)] (fun x9 w =>
 maxW (Value.int .i64 1) [x9] (fun x10 w =>
 addW 2 x1 (fun x11 w =>
 load1W x11 (fun x12 w =>
 minW x12 [(Value.int .i64 16)] (fun x13 w =>
 maxW (Value.int .i64 1) [x13] (fun x14 w =>
 addW 3 x1 (fun x15 w =>
 load1W x15 (fun x16 w =>
 minW x16 [(Value.int .i64 4)] (fun x17 w =>
 maxW (Value.int .i64 1) [x17] (fun x18 w =>
 addW 4 x1 (fun x19 w =>
 load1W x19 (fun x20 w =>
 minW x20 [(Value.int .u64 4611686018427387903)] (fun x21 w =>
 buildW [(Value.int .i64 0), (Value.int .i64 0), (Value.int .i64 0), (Value.int .i64 0), (Value.int .u64 0)] [(0, 1, x6), (1, 1, x10), (2, 1, x14), (3, 1, x18), (4, 1, x21)] (fun x22 w =>
 storeW 5 x2 x22 (fun _ w =>
 loadNW 5 x2 (fun x24 w =>
 K x24 w) w) w) w) w) w) w) w) w) w) w) w) w) w) w) w) w) w) w) w) w) w) w) w) w

theorem Q_mem_Held (a0 : Value) (K : KV) : S_mem_Held a0 K = P_mem_Held a0 K := by
  unfold S_mem_Held P_mem_Held
  generalize @addW = y_addW
  generalize @boxW = y_boxW
  generalize @buildW = y_buildW
  generalize @load1W = y_load1W
  generalize @loadNW = y_loadNW
  generalize @maxW = y_maxW
  generalize @minW = y_minW
  generalize @newW = y_newW
  generalize @storeW = y_storeW
  rfl

/-- heap_New -/
def P_heap_New (a0 : Value) (K : KV) : World → Prop := fun w =>
 minW a0 [(Value.int .i64 256)] (fun x1 w =>
 maxW (Value.int .i64 32) [x1] (fun x2 w =>
 makeSliceW 8 [(Value.int .u64 0)] x2 x2 (fun x3 w =>
 buildW [(Value.slice none 0 0)] [(0, 1, x3)] (fun x4 w =>
 boxW x4 (fun x5 w =>
 K x5 w) w) w) w) w) w

theorem Q_heap_New (a0 : Value) (K : KV) : S_heap_New a0 K = P_heap_New a0 K := by
  unfold S_heap_New P_heap_New
  generalize @boxW = y_boxW
  generalize @buildW = y_buildW
  generalize @makeSliceW = y_makeSliceW
  generalize @maxW = y_maxW
  generalize @minW = y_minW
  rfl

/-- stripe_New -/
def P_stripe_New (a0 a1 : Value) (K : KV) : World → Prop := fun w =>
 drewW (fun w => CP Tryz.prog Fn.stripe_near [a0, (Value.int .i64 16)] (fun x1 w =>
 andP (fun w => trueP w) (fun w =>
 andP (fun w => makeSliceW 24 [(Value.int .u64 0), (Value.bool false), (Value.int .i64 0)] x1 x1 (fun x2 w =>
 andP (fun w => trueP w) (fun w =>
 CP Tryz.prog Fn.stripe_near [a1, (Value.int .i64 16)] (fun x3 w =>
 andP (fun w => trueP w) (fun w =>
 buildW [(Value.slice none 0 0), (Value.int .i64 0)] [(0, 1, x2), (1, 1, x3)] (fun x4 w =>
 boxW x4 (fun x5 w =>
 andP (fun w => trueP w) (fun w =>
 K x5 w) w) w) w) w) w) w) w) (fun w => CP Tryz.prog Fn.stripe_near [a1, (Value.int .i64 16)] (fun x6 w =>
 andP (fun w => trueP w) (fun w =>
 makeSliceW 24 [(Value.int .u64 0), (Value.bool false), (Value.int .i64 0)] x1 x1 (fun x7 w =>
 andP (fun w => trueP w) (fun w =>
 buildW [(Value.slice none 0 0), (Value.int .i64 0)] [(0, 1, x7), (1, 1, x6)] (fun x8 w =>
 boxW x8 (fun x9 w =>
 andP (fun w => trueP w) (fun w =>
 K x9 w) w) w) w) w) w) w) w) w) w) w) w

theorem Q_stripe_New (a0 a1 : Value) (K : KV) : S_stripe_New a0 a1 K = P_stripe_New a0 a1 K := by
  unfold S_stripe_New P_stripe_New
  generalize @CP = y_CP
  generalize @andP = y_andP
  generalize @boxW = y_boxW
  generalize @buildW = y_buildW
  generalize @drewW = y_drewW
  generalize @makeSliceW = y_makeSliceW
  rfl

/-- clock_New -/
def P_clock_New (a0 : Value) (K : KV) : World → Prop := fun w =>
 minW a0 [(Value.int .u64 4611686018427387903)] (fun x1 w =>
 buildW [(Value.int .u64 0)] [(0, 1, x1)] (fun x2 w =>
 boxW x2 (fun x3 w =>
 K x3 w) w) w) w

theorem Q_clock_New (a0 : Value) (K : KV) : S_clock_New a0 K = P_clock_New a0 K := by
  unfold S_clock_New P_clock_New
  generalize @boxW = y_boxW
  generalize @buildW = y_buildW
  generalize @minW = y_minW
  rfl

/-- epoch_New -/
def P_epoch_New (a0 : Value) (K : KV) : World → Prop := fun w =>
 minW a0 [(Value.int .i64 4)] (fun x1 w =>
 maxW (Value.int .i64 1) [x1] (fun x2 w =>
 makeSliceW 8 [(Value.int .u64 0)] x2 x2 (fun x3 w =>
 buildW [(Value.slice none 0 0)] [(0, 1, x3)] (fun x4 w =>
 boxW x4 (fun x5 w =>
 K x5 w) w) w) w) w) w

theorem Q_epoch_New (a0 : Value) (K : KV) : S_epoch_New a0 K = P_epoch_New a0 K := by
  unfold S_epoch_New P_epoch_New
  generalize @boxW = y_boxW
  generalize @buildW = y_buildW
  generalize @makeSliceW = y_makeSliceW
  generalize @maxW = y_maxW
  generalize @minW = y_minW
  rfl

/-- mem_Mem_do -/
def P_mem_Mem_do (a0 a1 : Value) (K : KV) : World → Prop := fun w =>
 boxW a1 (fun x1 w =>
 newW #[(Value.int .u64 0), (Value.int .u64 0), (Value.bool false), (Value.int .i64 0), (Value.bool false), (Value.int .i64 0)] (fun x2 w =>
 newW #[(Value.int .u64 0), (Value.int .u64 0), (Value.bool false), (Value.int .i64 0), (Value.bool false), (Value.int .i64 0)] (fun x3 w =>
 addW 0 x1 (fun x4 w =>
 load1W x4 (fun x5 w =>
 binIntW .eql x5 (Value.int .i64 1) (fun x6 w =>
 joinW0 (fun  w =>
 loadNW 6 x3 (fun x7 w =>
 storeW 6 x2 x7 (fun _ w =>
 loadNW 6 x2 (fun x9 w =>
 K x9 w) w) w) w) (fun j1 w =>
 condP x6 (fun w => drewW (fun w => nilW a0 (fun x10 w =>
 addW 5 x10 (fun x11 w =>
 load1W x11 (fun x12 w =>
 addW 1 x1 (fun x13 w =>
 load1W x13 (fun x14 w =>
 CP Tryz.prog Fn.heap_Heap_Load [x12, x14] (fun x15 w =>
 andP (fun w => andP (fun w => trueP w) (fun w => andP (fun w => trueP w) (fun w => trueP w) w) w) (fun w =>
 extractW 0 x15 (fun x16 w =>
 extractW 1 x15 (fun x17 w =>
 addW 0 x3 (fun x18 w =>
 storeW 1 x18 x16 (fun _ w =>
 andP (fun w => trueP w) (fun w =>
 addW 5 x3 (fun x20 w =>
 storeW 1 x20 x17 (fun _ w =>
 andP (fun w => trueP w) (fun w =>
 j1  w) w) w) w) w) w) w) w) w) w) w) w) w) w) w) w) w) (fun w => binIntW .eql x5 (Value.int .i64 2) (fun x22 w =>
 joinW0 (fun  w =>
 j1  w) (fun j2 w =>
 condP x22 (fun w => drewW (fun w => nilW a0 (fun x23 w =>
 addW 5 x23 (fun x24 w =>
 load1W x24 (fun x25 w =>
 addW 1 x1 (fun x26 w =>
 load1W x26 (fun x27 w =>
 addW 3 x1 (fun x28 w =>
 load1W x28 (fun x29 w =>
 CP Tryz.prog Fn.heap_Heap_Store [x25, x27, x29] (fun x30 w =>
 andP (fun w => andP (fun w => trueP w) (fun w => andP (fun w => trueP w) (fun w => andP (fun w => trueP w) (fun w => trueP w) w) w) w) (fun w =>
 addW 5 x3 (fun x31 w =>
 storeW 1 x31 x30 (fun _ w =>
 andP (fun w => trueP w) (fun w =>
 j2  w) w) w) w) w) w) w) w) w) w) w) w) w) w) (fun w => binIntW .eql x5 (Value.int .i64 3) (fun x33 w =>
 joinW0 (fun  w =>
 j2  w) (fun j3 w =>
 condP x33 (fun w => drewW (fun w => nilW a0 (fun x34 w =>
 addW 6 x34 (fun x35 w =>
 load1W x35 (fun x36 w =>
 addW 1 x1 (fun x37 w =>
 load1W x37 (fun x38 w =>
 CP Tryz.prog Fn.stripe_Table_Load [x36, x38] (fun x39 w =>
 andP (fun w => andP (fun w => trueP w) (fun w => andP (fun w => trueP w) (fun w => trueP w) w) w) (fun w =>
 extractW 0 x39 (fun x40 w =>
 extractW 1 x39 (fun x41 w =>
 addW 1 x3 (fun x42 w =>
 storeW 3 x42 x40 (fun _ w =>
 andP (fun w => trueP w) (fun w =>
 addW 5 x3 (fun x44 w =>
 storeW 1 x44 x41 (fun _ w =>
 andP (fun w => trueP w) (fun w =>
 j3  w) w) w) w) w) w) w) w) w) w) w) w) w) w) w) w) w) (fun w => binIntW .eql x5 (Value.int .i64 4) (fun x46 w =>
 joinW0 (fun  w =>
 j3  w) (fun j4 w =>
 condP x46 (fun w => drewW (fun w => nilW a0 (fun x47 w =>
 addW 6 x47 (fun x48 w =>
 load1W x48 (fun x49 w =>
 addW 1 x1 (fun x50 w =>
 load1W x50 (fun x51 w =>
 addW 4 x1 (fun x52 w =>
 loadNW 3 x52 (fun x53 w =>
 addW 7 x1 (fun x54 w =>
 loadNW 3 x54 (fun x55 w =>
 CP Tryz.prog Fn.stripe_Table_Cas [x49, x51, x53, x55] (fun x56 w =>
 andP (fun w => andP (fun w => trueP w) (fun w => andP (fun w => trueP w) (fun w => andP (fun w => trueP w) (fun w => andP (fun w => trueP w) (fun w => trueP w) w) w) w) w) (fun w =>
 extractW 0 x56 (fun x57 w =>
 extractW 1 x56 (fun x58 w =>
 addW 4 x3 (fun x59 w =>
 storeW 1 x59 x57 (fun _ w =>
 andP (fun w => trueP w) (fun w =>
 addW 5 x3 (fun x61 w =>
 storeW 1 x61 x58 (fun _ w =>
 andP (fun w => trueP w) (fun w =>
 j4  w) w) w) w) w) w) w) w) w) w) w) w) w) w) w) w) w) w) w) w) w) (fun w => binIntW .eql x5 (Value.int .i64 5) (fun x63 w =>
 joinW0 (fun  w =>
 j4  w) (fun j5 w =>
 condP x63 (fun w => drewW (fun w => nilW a0 (fun x64 w =>
 addW 6 x64 (fun x65 w =>
 load1W x65 (fun x66 w =>
 addW 1 x1 (fun x67 w =>
 load1W x67 (fun x68 w =>
 addW 7 x1 (fun x69 w =>
 loadNW 3 x69 (fun x70 w =>
 CP Tryz.prog Fn.stripe_Table_Store [x66, x68, x70] (fun x71 w =>
 andP (fun w => andP (fun w => trueP w) (fun w => andP (fun w => trueP w) (fun w => andP (fun w => trueP w) (fun w => trueP w) w) w) w) (fun w =>
 addW 5 x3 (fun x72 w =>
 storeW 1 x72 x71 (fun _ w =>
 andP (fun w => trueP w) (fun w =>
 j5  w) w) w) w) w) w) w) w) w) w) w) w) w) w) (fun w => binIntW .eql x5 (Value.int .i64 6) (fun x74 w =>
 joinW0 (fun  w =>
 j5  w) (fun j6 w =>
 condP x74 (fun w => nilW a0 (fun x75 w =>
 addW 7 x75 (fun x76 w =>
 load1W x76 (fun x77 w =>
 CP Tryz.prog Fn.clock_Clock_Load [x77] (fun x78 w =>
 addW 0 x3 (fun x79 w =>
 storeW 1 x79 x78 (fun _ w =>
 j6  w) w) w) w) w) w) w) (fun w => binIntW .eql x5 (Value.int .i64 7) (fun x81 w =>
 joinW0 (fun  w =>
 j6  w) (fun j7 w =>
 condP x81 (fun w => drewW (fun w => nilW a0 (fun x82 w =>
 addW 7 x82 (fun x83 w =>
 load1W x83 (fun x84 w =>
 addW 2 x1 (fun x85 w =>
 load1W x85 (fun x86 w =>
 addW 3 x1 (fun x87 w =>
 load1W x87 (fun x88 w =>
 CP Tryz.prog Fn.clock_Clock_Cas [x84, x86, x88] (fun x89 w =>
 andP (fun w => andP (fun w => trueP w) (fun w => andP (fun w => trueP w) (fun w => andP (fun w => trueP w) (fun w => trueP w) w) w) w) (fun w =>
 extractW 0 x89 (fun x90 w =>
 extractW 1 x89 (fun x91 w =>
 addW 4 x3 (fun x92 w =>
 storeW 1 x92 x90 (fun _ w =>
 andP (fun w => trueP w) (fun w =>
 addW 5 x3 (fun x94 w =>
 storeW 1 x94 x91 (fun _ w =>
 andP (fun w => trueP w) (fun w =>
 j7  w) w) w) w) w) w) w) w) w) w) w) w) w) w) w) w) w) w) w) (fun w => binIntW .eql x5 (Value.int .i64 8) (fun x96 w =>
 joinW0 (fun  w =>
 j7  w) (fun j8 w =>
 condP x96 (fun w => drewW (fun w => nilW a0 (fun x97 w =>
 addW 8 x97 (fun x98 w =>
 load1W x98 (fun x99 w =>
 addW 1 x1 (fun x100 w =>
 load1W x100 (fun x101 w =>
 CP Tryz.prog Fn.epoch_Slots_Load [x99, x101] (fun x102 w =>
 andP (fun w => andP (fun w => trueP w) (fun w => andP (fun w => trueP w) (fun w => trueP w) w) w) (fun w =>
 extractW 0 x102 (fun x103 w =>
 extractW 1 x102 (fun x104 w =>
 addW 0 x3 (fun x105 w =>
 storeW 1 x105 x103 (fun _ w =>
 andP (fun w => trueP w) (fun w =>
 addW 5 x3 (fun x107 w =>
 storeW 1 x107 x104 (fun _ w =>
 andP (fun w => trueP w) (fun w =>
 j8  w) w) w) w) w) w) w) w) w) w) w) w) w) w) w) w) w) (fun w => binIntW .eql x5 (Value.int .i64 9) (fun x109 w =>
 joinW0 (fun  w =>
 j8  w) (fun j9 w =>
 condP x109 (fun w => drewW (fun w => nilW a0 (fun x110 w =>
 addW 8 x110 (fun x111 w =>
 load1W x111 (fun x112 w =>
 addW 1 x1 (fun x113 w =>
 load1W x113 (fun x114 w =>
 addW 3 x1 (fun x115 w =>
 load1W x115 (fun x116 w =>
 CP Tryz.prog Fn.epoch_Slots_Store [x112, x114, x116] (fun x117 w =>
 andP (fun w => andP (fun w => trueP w) (fun w => andP (fun w => trueP w) (fun w => andP (fun w => trueP w) (fun w => trueP w) w) w) w) (fun w =>
 addW 5 x3 (fun x118 w =>
 storeW 1 x118 x117 (fun _ w =>
 andP (fun w => trueP w) (fun w =>
 j9  w) w) w) w) w) w) w) w) w) w) w) w) w) w) (fun w => addW 5 x3 (fun x120 w =>
 storeW 1 x120 (Value.int .i64 1) (fun _ w =>
 j9  w) w) w) w) w) w) w) w) w) w) w) w) w) w) w) w) w) w) w) w) w) w) w) w) w) w) w) w) w) w) w) w) w) w) w

theorem Q_mem_Mem_do (a0 a1 : Value) (K : KV) : S_mem_Mem_do a0 a1 K = P_mem_Mem_do a0 a1 K := by
  unfold S_mem_Mem_do P_mem_Mem_do
  generalize @CP = y_CP
  generalize @addW = y_addW
  generalize @andP = y_andP
  generalize @binIntW = y_binIntW
  generalize @boxW = y_boxW
  generalize @condP = y_condP
  generalize @drewW = y_drewW
  generalize @extractW = y_extractW
  generalize @joinW0 = y_joinW0
  generalize @load1W = y_load1W
  generalize @loadNW = y_loadNW
  generalize @newW = y_newW
  generalize @nilW = y_nilW
  generalize @storeW = y_storeW
  rfl

/-- stripe_Table_All -/
def P_stripe_Table_All (a0 : Value) (K : KV) : World → Prop := fun w =>
 nilW a0 (fun x1 w =>
 addW 0 x1 (fun x2 w =>
 load1W x2 (fun x3 w =>
 CP Tryz.prog Fn.slices_Clone_api_Lock_api_Lock [x3] (fun x4 w =>
 K x4 w) w) w) w) w

theorem Q_stripe_Table_All (a0 : Value) (K : KV) : S_stripe_Table_All a0 K = P_stripe_Table_All a0 K := by
  unfold S_stripe_Table_All P_stripe_Table_All
  generalize @CP = y_CP
  generalize @addW = y_addW
  generalize @load1W = y_load1W
  generalize @nilW = y_nilW
  rfl

/-- heap_Heap_All -/
def P_heap_Heap_All (a0 : Value) (K : KV) : World → Prop := fun w =>
 nilW a0 (fun x1 w =>
 addW 0 x1 (fun x2 w =>
 load1W x2 (fun x3 w =>
 CP Tryz.prog Fn.slices_Clone_uint64_uint64 [x3] (fun x4 w =>
 K x4 w) w) w) w) w

theorem Q_heap_Heap_All (a0 : Value) (K : KV) : S_heap_Heap_All a0 K = P_heap_Heap_All a0 K := by
  unfold S_heap_Heap_All P_heap_Heap_All
  generalize @CP = y_CP
  generalize @addW = y_addW
  generalize @load1W = y_load1W
  generalize @nilW = y_nilW
  rfl

/-- clock_Clock_Load -/
def P_clock_Clock_Load (a0 : Value) (K : KV) : World → Prop := fun w =>
 nilW a0 (fun x1 w =>
 addW 0 x1 (fun x2 w =>
 load1W x2 (fun x3 w =>
 K x3 w) w) w) w

theorem Q_clock_Clock_Load (a0 : Value) (K : KV) : S_clock_Clock_Load a0 K = P_clock_Clock_Load a0 K := by
  unfold S_clock_Clock_Load P_clock_Clock_Load
  generalize @addW = y_addW
  generalize @load1W = y_load1W
  generalize @nilW = y_nilW
  rfl

/-- ref1_Held -/
def P_ref1_Held (a0 a1 a2 : Value) (K : KV) : World → Prop := fun w =>
 binIntW .lss a0 a1 (fun x1 w =>
 condP x1 (fun w => K a1 w) (fun w => binIntW .gtr a0 a2 (fun x2 w =>
 condP x2 (fun w => K a2 w) (fun w => K a0 w) w) w) w) w

theorem Q_ref1_Held (a0 a1 a2 : Value) (K : KV) : S_ref1_Held a0 a1 a2 K = P_ref1_Held a0 a1 a2 K := by
  unfold S_ref1_Held P_ref1_Held
  generalize @binIntW = y_binIntW
  generalize @condP = y_condP
  rfl

/-- stripe_Of -/
def P_stripe_Of (a0 a1 a2 : Value) (K : KV) : World → Prop := fun w =>
 binIntW .lss a0 (Value.int .i64 0) (fun x1 w =>
 condP x1 (fun w => K (Value.int .i64 (-1)) w) (fun w => drewW (fun w => CP Tryz.prog Fn.stripe_near [a2, (Value.int .i64 16)] (fun x2 w =>
 andP (fun w => trueP w) (fun w =>
 binIntW .quo a0 x2 (fun x3 w =>
 CP Tryz.prog Fn.stripe_near [a1, (Value.int .i64 16)] (fun x4 w =>
 andP (fun w => trueP w) (fun w =>
 binIntW .rem x3 x4 (fun x5 w =>
 K x5 w) w) w) w) w) w) w) w) w) w

theorem Q_stripe_Of (a0 a1 a2 : Value) (K : KV) : S_stripe_Of a0 a1 a2 K = P_stripe_Of a0 a1 a2 K := by
  unfold S_stripe_Of P_stripe_Of
  generalize @CP = y_CP
  generalize @andP = y_andP
  generalize @binIntW = y_binIntW
  generalize @condP = y_condP
  generalize @drewW = y_drewW
  rfl

/-- slices_Sort_int_int -/
def P_slices_Sort_int_int (a0 : Value) (K : KV) : World → Prop := fun w =>
 lenW a0 (fun x1 w =>
 convW .u64 x1 (fun x2 w =>
 CP Tryz.prog Fn.math_bits_Len [x2] (fun x3 w =>
 CP Tryz.prog Fn.slices_pdqsortOrdered_int [a0, (Value.int .i64 0), x1, x3] (fun x4 w =>
 K (Value.tuple #[]) w) w) w) w) w

theorem Q_slices_Sort_int_int (a0 : Value) (K : KV) : S_slices_Sort_int_int a0 K = P_slices_Sort_int_int a0 K := by
  unfold S_slices_Sort_int_int P_slices_Sort_int_int
  generalize @CP = y_CP
  generalize @convW = y_convW
  generalize @lenW = y_lenW
  rfl

/-- ref1_Of -/
def P_ref1_Of (a0 a1 a2 : Value) (K : KV) : World → Prop := fun w =>
 binIntW .lss a0 (Value.int .i64 0) (fun x1 w =>
 condP x1 (fun w => K (Value.int .i64 (-1)) w) (fun w => drewW (fun w => CP Tryz.prog Fn.ref1_Held [a2, (Value.int .i64 1), (Value.int .i64 16)] (fun x2 w =>
 andP (fun w => trueP w) (fun w =>
 binIntW .quo a0 x2 (fun x3 w =>
 CP Tryz.prog Fn.ref1_Held [a1, (Value.int .i64 1), (Value.int .i64 16)] (fun x4 w =>
 andP (fun w => trueP w) (fun w =>
 binIntW .rem x3 x4 (fun x5 w =>
 K x5 w) w) w) w) w) w) w) w) w) w

theorem Q_ref1_Of (a0 a1 a2 : Value) (K : KV) : S_ref1_Of a0 a1 a2 K = P_ref1_Of a0 a1 a2 K := by
  unfold S_ref1_Of P_ref1_Of
  generalize @CP = y_CP
  generalize @andP = y_andP
  generalize @binIntW = y_binIntW
  generalize @condP = y_condP
  generalize @drewW = y_drewW
  rfl

/-- patience_Patience_Stop -/
def P_patience_Patience_Stop (a0 a1 a2 a3 : Value) (K : KV) : World → Prop := fun w =>
 nilW a0 (fun x1 w =>
 addW 2 x1 (fun x2 w =>
 storeW 1 x2 a1 (fun _ w =>
 nilW a0 (fun x4 w =>
 addW 4 x4 (fun x5 w =>
 storeW 1 x5 a2 (fun _ w =>
 nilW a0 (fun x7 w =>
 addW 3 x7 (fun x8 w =>
 storeW 1 x8 a3 (fun _ w =>
 K (Value.tuple #[]) w) w) w) w) w) w) w) w) w) w

theorem Q_patience_Patience_Stop (a0 a1 a2 a3 : Value) (K : KV) : S_patience_Patience_Stop a0 a1 a2 a3 K = P_patience_Patience_Stop a0 a1 a2 a3 K := by
  unfold S_patience_Patience_Stop P_patience_Patience_Stop
  generalize @addW = y_addW
  generalize @nilW = y_nilW
  generalize @storeW = y_storeW
  rfl

/-- commit_Commit_held -/
def P_commit_Commit_held (a0 a1 : Value) (K : KV) : World → Prop := fun w =>
 boxW a1 (fun x1 w =>
 drewW (fun w => nilW a0 (fun x2 w =>
 addW 0 x2 (fun x3 w =>
 loadNW 3 x1 (fun x4 w =>
 CP Tryz.prog Fn.patience_Patience_Waits [x3, x4] (fun x5 w =>
 andP (fun w => andP (fun w => trueP w) (fun w => trueP w) w) (fun w =>
 notW x5 (fun x6 w =>
 joinW0 (fun  w =>
 K (Value.tuple #[]) w) (fun j1 w =>
 condP x6 (fun w => addW 2 x1 (fun x7 w =>
 load1W x7 (fun x8 w =>
 CP Tryz.prog Fn.commit_Commit_stop [a0, (Value.int .i64 5), (Value.int .i64 0), x8] (fun x9 w =>
 j1  w) w) w) w) (fun w => j1  w) w) w) w) w) w) w) w) w) w) w

theorem Q_commit_Commit_held (a0 a1 : Value) (K : KV) : S_commit_Commit_held a0 a1 K = P_commit_Commit_held a0 a1 K := by
  unfold S_commit_Commit_held P_commit_Commit_held
  generalize @CP = y_CP
  generalize @addW = y_addW
  generalize @andP = y_andP
  generalize @boxW = y_boxW
  generalize @condP = y_condP
  generalize @drewW = y_drewW
  generalize @joinW0 = y_joinW0
  generalize @load1W = y_load1W
  generalize @loadNW = y_loadNW
  generalize @nilW = y_nilW
  generalize @notW = y_notW
  rfl

/-- commit_Commit_stop -/
def P_commit_Commit_stop (a0 a1 a2 a3 : Value) (K : KV) : World → Prop := fun w =>
 nilW a0 (fun x1 w =>
 addW 18 x1 (fun x2 w =>
 storeW 1 x2 a1 (fun _ w =>
 nilW a0 (fun x4 w =>
 addW 20 x4 (fun x5 w =>
 storeW 1 x5 a2 (fun _ w =>
 nilW a0 (fun x7 w =>
 addW 19 x7 (fun x8 w =>
 storeW 1 x8 a3 (fun _ w =>
 nilW a0 (fun x10 w =>
 addW 12 x10 (fun x11 w =>
 storeW 1 x11 (Value.int .i64 0) (fun _ w =>
 nilW a0 (fun x13 w =>
 addW 11 x13 (fun x14 w =>
 storeW 1 x14 (Value.int .i64 7) (fun _ w =>
 CP Tryz.prog Fn.commit_Commit_leave [a0] (fun x16 w =>
 K (Value.tuple #[]) w) w) w) w) w) w) w) w) w) w) w) w) w) w) w) w) w

theorem Q_commit_Commit_stop (a0 a1 a2 a3 : Value) (K : KV) : S_commit_Commit_stop a0 a1 a2 a3 K = P_commit_Commit_stop a0 a1 a2 a3 K := by
  unfold S_commit_Commit_stop P_commit_Commit_stop
  generalize @CP = y_CP
  generalize @addW = y_addW
  generalize @nilW = y_nilW
  generalize @storeW = y_storeW
  rfl

/-- commit_Commit_begin -/
def P_commit_Commit_begin (a0 : Value) (K : KV) : World → Prop := fun w =>
 nilW a0 (fun x1 w =>
 addW 17 x1 (fun x2 w =>
 storeW 1 x2 (Value.bool true) (fun _ w =>
 nilW a0 (fun x4 w =>
 addW 12 x4 (fun x5 w =>
 storeW 1 x5 (Value.int .i64 0) (fun _ w =>
 nilW a0 (fun x7 w =>
 addW 11 x7 (fun x8 w =>
 storeW 1 x8 (Value.int .i64 5) (fun _ w =>
 CP Tryz.prog Fn.commit_Commit_write [a0] (fun x10 w =>
 K (Value.tuple #[]) w) w) w) w) w) w) w) w) w) w) w

theorem Q_commit_Commit_begin (a0 : Value) (K : KV) : S_commit_Commit_begin a0 K = P_commit_Commit_begin a0 K := by
  unfold S_commit_Commit_begin P_commit_Commit_begin
  generalize @CP = y_CP
  generalize @addW = y_addW
  generalize @nilW = y_nilW
  generalize @storeW = y_storeW
  rfl

/-- commit_Commit_prove -/
def P_commit_Commit_prove (a0 : Value) (K : KV) : World → Prop := fun w =>
 nilW a0 (fun x1 w =>
 addW 11 x1 (fun x2 w =>
 storeW 1 x2 (Value.int .i64 4) (fun _ w =>
 loopW0  (fun J1  w =>
 drewW (fun w => nilW a0 (fun x4 w =>
 addW 12 x4 (fun x5 w =>
 load1W x5 (fun x6 w =>
 nilW a0 (fun x7 w =>
 addW 7 x7 (fun x8 w =>
 load1W x8 (fun x9 w =>
 lenW x9 (fun x10 w =>
 binIntW .lss x6 x10 (fun x11 w =>
 condP x11 (fun w => drewW (fun w => nilW a0 (fun x12 w =>
 addW 9 x12 (fun x13 w =>
 load1W x13 (fun x14 w =>
 nilW a0 (fun x15 w =>
 addW 7 x15 (fun x16 w =>
 load1W x16 (fun x17 w =>
 nilW a0 (fun x18 w =>
 addW 12 x18 (fun x19 w =>
 load1W x19 (fun x20 w =>
 idxW 2 x17 x20 (fun x21 w =>
 addW 0 x21 (fun x22 w =>
 load1W x22 (fun x23 w =>
 CP Tryz.prog Fn.slices_BinarySearch_int_int [x14, x23] (fun x24 w =>
 andP (fun w => andP (fun w => trueP w) (fun w => andP (fun w => trueP w) (fun w => andP (fun w => trueP w) (fun w => andP (fun w => trueP w) (fun w => trueP w) w) w) w) w) (fun w =>
 extractW 0 x24 (fun x25 w =>
 extractW 1 x24 (fun x26 w =>
 notW x26 (fun x27 w =>
 condP x27 (fun w => K (Value.tuple #[]) w) (fun w => drewW (fun w => nilW a0 (fun x28 w =>
 addW 10 x28 (fun x29 w =>
 load1W x29 (fun x30 w =>
 idxW 3 x30 x25 (fun x31 w =>
 addW 0 x31 (fun x32 w =>
 load1W x32 (fun x33 w =>
 nilW a0 (fun x34 w =>
 addW 7 x34 (fun x35 w =>
 load1W x35 (fun x36 w =>
 nilW a0 (fun x37 w =>
 addW 12 x37 (fun x38 w =>
 load1W x38 (fun x39 w =>
 idxW 2 x36 x39 (fun x40 w =>
 addW 1 x40 (fun x41 w =>
 load1W x41 (fun x42 w =>
 binIntW .neq x33 x42 (fun x43 w =>
 condP x43 (fun w => CP Tryz.prog Fn.commit_Commit_stop [a0, (Value.int .i64 5), (Value.int .i64 0), (Value.int .i64 (-1))] (fun x44 w =>
 K (Value.tuple #[]) w) w) (fun w => nilW a0 (fun x45 w =>
 addW 12 x45 (fun x46 w =>
 load1W x46 (fun x47 w =>
 binIntW .add x47 (Value.int .i64 1) (fun x48 w =>
 nilW a0 (fun x49 w =>
 addW 12 x49 (fun x50 w =>
 storeW 1 x50 x48 (fun _ w =>
 J1  w) w) w) w) w) w) w) w) w) w) w) w) w) w) w) w) w) w) w) w) w) w) w) w) w) w) w) w) w) w) w) w) w) w) w) w) w) w) w) w) w) w) w) w) w) (fun w => CP Tryz.prog Fn.commit_Commit_begin [a0] (fun x52 w =>
 K (Value.tuple #[]) w) w) w) w) w) w) w) w) w) w) w) w) w) w) w) w

theorem Q_commit_Commit_prove (a0 : Value) (K : KV) : S_commit_Commit_prove a0 K = P_commit_Commit_prove a0 K := by
  unfold S_commit_Commit_prove P_commit_Commit_prove
  generalize @CP = y_CP
  generalize @addW = y_addW
  generalize @andP = y_andP
  generalize @binIntW = y_binIntW
  generalize @condP = y_condP
  generalize @drewW = y_drewW
  generalize @extractW = y_extractW
  generalize @idxW = y_idxW
  generalize @lenW = y_lenW
  generalize @load1W = y_load1W
  generalize @loopW0 = y_loopW0
  generalize @nilW = y_nilW
  generalize @notW = y_notW
  generalize @storeW = y_storeW
  rfl

/-- ref23_Step_held -/
def P_ref23_Step_held (a0 a1 : Value) (K : KV) : World → Prop := fun w =>
 boxW a1 (fun x1 w =>
 drewW (fun w => addW 2 x1 (fun x2 w =>
 load1W x2 (fun x3 w =>
 nilW a0 (fun x4 w =>
 addW 0 x4 (fun x5 w =>
 load1W x5 (fun x6 w =>
 binIntW .gtr x3 x6 (fun x7 w =>
 condP x7 (fun w => K (Value.bool true) w) (fun w => nilW a0 (fun x8 w =>
 addW 1 x8 (fun x9 w =>
 load1W x9 (fun x10 w =>
 binIntW .gtr x10 (Value.int .i64 0) (fun x11 w =>
 condP x11 (fun w => nilW a0 (fun x12 w =>
 addW 1 x12 (fun x13 w =>
 load1W x13 (fun x14 w =>
 binIntW .sub x14 (Value.int .i64 1) (fun x15 w =>
 nilW a0 (fun x16 w =>
 addW 1 x16 (fun x17 w =>
 storeW 1 x17 x15 (fun _ w =>
 K (Value.bool true) w) w) w) w) w) w) w) w) (fun w => drewW (fun w => addW 2 x1 (fun x19 w =>
 load1W x19 (fun x20 w =>
 nilW a0 (fun x21 w =>
 addW 2 x21 (fun x22 w =>
 storeW 1 x22 (Value.int .i64 5) (fun _ w =>
 andP (fun w => andP (fun w => load1W x19 (fun v w => eqP v x20 w) w) (fun w => trueP w) w) (fun w =>
 nilW a0 (fun x24 w =>
 addW 4 x24 (fun x25 w =>
 storeW 1 x25 x20 (fun _ w =>
 andP (fun w => andP (fun w => trueP w) (fun w => trueP w) w) (fun w =>
 K (Value.bool false) w) w) w) w) w) w) w) w) w) w) w) w) w) w) w) w) w) w) w) w) w) w) w) w) w) w

theorem Q_ref23_Step_held (a0 a1 : Value) (K : KV) : S_ref23_Step_held a0 a1 K = P_ref23_Step_held a0 a1 K := by
  unfold S_ref23_Step_held P_ref23_Step_held
  generalize @addW = y_addW
  generalize @andP = y_andP
  generalize @binIntW = y_binIntW
  generalize @boxW = y_boxW
  generalize @condP = y_condP
  generalize @drewW = y_drewW
  generalize @eqP = y_eqP
  generalize @load1W = y_load1W
  generalize @nilW = y_nilW
  generalize @storeW = y_storeW
  rfl

/-- ref23_Commit_own -/
def P_ref23_Commit_own (a0 a1 : Value) (K : KV) : World → Prop := fun w =>
 loopW1 (Value.int .i64 0) (fun J1 x1 w =>
 nilW a0 (fun x2 w =>
 addW 9 x2 (fun x3 w =>
 load1W x3 (fun x4 w =>
 lenW x4 (fun x5 w =>
 binIntW .lss x1 x5 (fun x6 w =>
 condP x6 (fun w => nilW a0 (fun x7 w =>
 addW 8 x7 (fun x8 w =>
 load1W x8 (fun x9 w =>
 idxW 1 x9 x1 (fun x10 w =>
 load1W x10 (fun x11 w =>
 binIntW .eql x11 a1 (fun x12 w =>
 condP x12 (fun w => nilW a0 (fun x13 w =>
 addW 9 x13 (fun x14 w =>
 load1W x14 (fun x15 w =>
 idxW 3 x15 x1 (fun x16 w =>
 addW 0 x16 (fun x17 w =>
 load1W x17 (fun x18 w =>
 K (Value.tuple #[x18, (Value.bool true)]) w) w) w) w) w) w) w) (fun w => binIntW .add x1 (Value.int .i64 1) (fun x19 w =>
 J1 x19 w) w) w) w) w) w) w) w) w) (fun w => K (Value.tuple #[(Value.int .u64 0), (Value.bool false)]) w) w) w) w) w) w) w) w

theorem Q_ref23_Commit_own (a0 a1 : Value) (K : KV) : S_ref23_Commit_own a0 a1 K = P_ref23_Commit_own a0 a1 K := by
  unfold S_ref23_Commit_own P_ref23_Commit_own
  generalize @addW = y_addW
  generalize @binIntW = y_binIntW
  generalize @condP = y_condP
  generalize @idxW = y_idxW
  generalize @lenW = y_lenW
  generalize @load1W = y_load1W
  generalize @loopW1 = y_loopW1
  generalize @nilW = y_nilW
  rfl

/-- stripe_near -/
def P_stripe_near (a0 a1 : Value) (K : KV) : World → Prop := fun w =>
 minW a0 [a1] (fun x1 w =>
 maxW (Value.int .i64 1) [x1] (fun x2 w =>
 K x2 w) w) w

theorem Q_stripe_near (a0 a1 : Value) (K : KV) : S_stripe_near a0 a1 K = P_stripe_near a0 a1 K := by
  unfold S_stripe_near P_stripe_near
  generalize @maxW = y_maxW
  generalize @minW = y_minW
  rfl

/-- heap_Heap_Load -/
def P_heap_Heap_Load (a0 a1 : Value) (K : KV) : World → Prop := fun w =>
 CP Tryz.prog Fn.heap_Heap_is [a0, a1] (fun x1 w =>
 notW x1 (fun x2 w =>
 condP x2 (fun w => K (Value.tuple #[(Value.int .u64 0), (Value.int .i64 2)]) w) (fun w => nilW a0 (fun x3 w =>
 addW 0 x3 (fun x4 w =>
 load1W x4 (fun x5 w =>
 idxW 1 x5 a1 (fun x6 w =>
 load1W x6 (fun x7 w =>
 K (Value.tuple #[x7, (Value.int .i64 0)]) w) w) w) w) w) w) w) w) w

theorem Q_heap_Heap_Load (a0 a1 : Value) (K : KV) : S_heap_Heap_Load a0 a1 K = P_heap_Heap_Load a0 a1 K := by
  unfold S_heap_Heap_Load P_heap_Heap_Load
  generalize @CP = y_CP
  generalize @addW = y_addW
  generalize @condP = y_condP
  generalize @idxW = y_idxW
  generalize @load1W = y_load1W
  generalize @nilW = y_nilW
  generalize @notW = y_notW
  rfl

/-- heap_Heap_Store -/
def P_heap_Heap_Store (a0 a1 a2 : Value) (K : KV) : World → Prop := fun w =>
 CP Tryz.prog Fn.heap_Heap_is [a0, a1] (fun x1 w =>
 notW x1 (fun x2 w =>
 condP x2 (fun w => K (Value.int .i64 2) w) (fun w => nilW a0 (fun x3 w =>
 addW 0 x3 (fun x4 w =>
 load1W x4 (fun x5 w =>
 idxW 1 x5 a1 (fun x6 w =>
 storeW 1 x6 a2 (fun _ w =>
 K (Value.int .i64 0) w) w) w) w) w) w) w) w) w

theorem Q_heap_Heap_Store (a0 a1 a2 : Value) (K : KV) : S_heap_Heap_Store a0 a1 a2 K = P_heap_Heap_Store a0 a1 a2 K := by
  unfold S_heap_Heap_Store P_heap_Heap_Store
  generalize @CP = y_CP
  generalize @addW = y_addW
  generalize @condP = y_condP
  generalize @idxW = y_idxW
  generalize @load1W = y_load1W
  generalize @nilW = y_nilW
  generalize @notW = y_notW
  generalize @storeW = y_storeW
  rfl

/-- stripe_Table_Load -/
def P_stripe_Table_Load (a0 a1 : Value) (K : KV) : World → Prop := fun w =>
 newW #[(Value.int .u64 0), (Value.bool false), (Value.int .i64 0)] (fun x1 w =>
 CP Tryz.prog Fn.stripe_Table_is [a0, a1] (fun x2 w =>
 notW x2 (fun x3 w =>
 condP x3 (fun w => buildW [(Value.int .u64 0), (Value.bool false), (Value.int .i64 0)] [] (fun x4 w =>
 storeW 3 x1 x4 (fun _ w =>
 loadNW 3 x1 (fun x6 w =>
 K (Value.tuple #[x6, (Value.int .i64 2)]) w) w) w) w) (fun w => nilW a0 (fun x7 w =>
 addW 0 x7 (fun x8 w =>
 load1W x8 (fun x9 w =>
 idxW 3 x9 a1 (fun x10 w =>
 loadNW 3 x10 (fun x11 w =>
 storeW 3 x1 x11 (fun _ w =>
 loadNW 3 x1 (fun x13 w =>
 K (Value.tuple #[x13, (Value.int .i64 0)]) w) w) w) w) w) w) w) w) w) w) w) w

theorem Q_stripe_Table_Load (a0 a1 : Value) (K : KV) : S_stripe_Table_Load a0 a1 K = P_stripe_Table_Load a0 a1 K := by
  unfold S_stripe_Table_Load P_stripe_Table_Load
  generalize @CP = y_CP
  generalize @addW = y_addW
  generalize @buildW = y_buildW
  generalize @condP = y_condP
  generalize @idxW = y_idxW
  generalize @load1W = y_load1W
  generalize @loadNW = y_loadNW
  generalize @newW = y_newW
  generalize @nilW = y_nilW
  generalize @notW = y_notW
  generalize @storeW = y_storeW
  rfl

/-- stripe_Table_Cas -/
def P_stripe_Table_Cas (a0 a1 a2 a3 : Value) (K : KV) : World → Prop := fun w =>
 boxW a2 (fun x1 w =>
 boxW a3 (fun x2 w =>
 loadNW 3 x2 (fun x3 w =>
 CP Tryz.prog Fn.stripe_Table_may [a0, a1, x3] (fun x4 w =>
 binIntW .neq x4 (Value.int .i64 0) (fun x5 w =>
 condP x5 (fun w => K (Value.tuple #[(Value.bool false), x4]) w) (fun w => drewW (fun w => nilW a0 (fun x6 w =>
 addW 0 x6 (fun x7 w =>
 load1W x7 (fun x8 w =>
 idxW 3 x8 a1 (fun x9 w =>
 loadNW 3 x9 (fun x10 w =>
 loadNW 3 x1 (fun x11 w =>
 eqAggW [.i .u64, .b, .i .i64] .neq x10 x11 (fun x12 w =>
 condP x12 (fun w => K (Value.tuple #[(Value.bool false), (Value.int .i64 0)]) w) (fun w => drewW (fun w => nilW a0 (fun x13 w =>
 addW 0 x13 (fun x14 w =>
 load1W x14 (fun x15 w =>
 loadNW 3 x2 (fun x16 w =>
 idxW 3 x15 a1 (fun x17 w =>
 storeW 3 x17 x16 (fun _ w =>
 andP (fun w => andP (fun w => trueP w) (fun w => andP (fun w => trueP w) (fun w => trueP w) w) w) (fun w =>
 K (Value.tuple #[(Value.bool true), (Value.int .i64 0)]) w) w) w) w) w) w) w) w) w) w) w) w) w) w) w) w) w) w) w) w) w) w) w) w

theorem Q_stripe_Table_Cas (a0 a1 a2 a3 : Value) (K : KV) : S_stripe_Table_Cas a0 a1 a2 a3 K = P_stripe_Table_Cas a0 a1 a2 a3 K := by
  unfold S_stripe_Table_Cas P_stripe_Table_Cas
  generalize @CP = y_CP
  generalize @addW = y_addW
  generalize @andP = y_andP
  generalize @binIntW = y_binIntW
  generalize @boxW = y_boxW
  generalize @condP = y_condP
  generalize @drewW = y_drewW
  generalize @eqAggW = y_eqAggW
  generalize @idxW = y_idxW
  generalize @load1W = y_load1W
  generalize @loadNW = y_loadNW
  generalize @nilW = y_nilW
  generalize @storeW = y_storeW
  rfl

/-- stripe_Table_Store -/
def P_stripe_Table_Store (a0 a1 a2 : Value) (K : KV) : World → Prop := fun w =>
 boxW a2 (fun x1 w =>
 loadNW 3 x1 (fun x2 w =>
 CP Tryz.prog Fn.stripe_Table_may [a0, a1, x2] (fun x3 w =>
 binIntW .eql x3 (Value.int .i64 0) (fun x4 w =>
 joinW0 (fun  w =>
 K x3 w) (fun j1 w =>
 condP x4 (fun w => drewW (fun w => nilW a0 (fun x5 w =>
 addW 0 x5 (fun x6 w =>
 load1W x6 (fun x7 w =>
 loadNW 3 x1 (fun x8 w =>
 idxW 3 x7 a1 (fun x9 w =>
 storeW 3 x9 x8 (fun _ w =>
 andP (fun w => andP (fun w => trueP w) (fun w => andP (fun w => trueP w) (fun w => trueP w) w) w) (fun w =>
 j1  w) w) w) w) w) w) w) w) w) (fun w => j1  w) w) w) w) w) w) w

theorem Q_stripe_Table_Store (a0 a1 a2 : Value) (K : KV) : S_stripe_Table_Store a0 a1 a2 K = P_stripe_Table_Store a0 a1 a2 K := by
  unfold S_stripe_Table_Store P_stripe_Table_Store
  generalize @CP = y_CP
  generalize @addW = y_addW
  generalize @andP = y_andP
  generalize @binIntW = y_binIntW
  generalize @boxW = y_boxW
  generalize @condP = y_condP
  generalize @drewW = y_drewW
  generalize @idxW = y_idxW
  generalize @joinW0 = y_joinW0
  generalize @load1W = y_load1W
  generalize @loadNW = y_loadNW
  generalize @nilW = y_nilW
  generalize @storeW = y_storeW
  rfl

/-- clock_Clock_Cas -/
def P_clock_Clock_Cas (a0 a1 a2 : Value) (K : KV) : World → Prop := fun w =>
 binIntW .leq a2 a1 (fun x1 w =>
 condP x1 (fun w => K (Value.tuple #[(Value.bool false), (Value.int .i64 1)]) w) (fun w => binIntW .geq a2 (Value.int .u64 4611686018427387904) (fun x2 w =>
 condP x2 (fun w => K (Value.tuple #[(Value.bool false), (Value.int .i64 7)]) w) (fun w => nilW a0 (fun x3 w =>
 addW 0 x3 (fun x4 w =>
 load1W x4 (fun x5 w =>
 binIntW .neq x5 a1 (fun x6 w =>
 condP x6 (fun w => K (Value.tuple #[(Value.bool false), (Value.int .i64 0)]) w) (fun w => nilW a0 (fun x7 w =>
 addW 0 x7 (fun x8 w =>
 storeW 1 x8 a2 (fun _ w =>
 K (Value.tuple #[(Value.bool true), (Value.int .i64 0)]) w) w) w) w) w) w) w) w) w) w) w) w) w

theorem Q_clock_Clock_Cas (a0 a1 a2 : Value) (K : KV) : S_clock_Clock_Cas a0 a1 a2 K = P_clock_Clock_Cas a0 a1 a2 K := by
  unfold S_clock_Clock_Cas P_clock_Clock_Cas
  generalize @addW = y_addW
  generalize @binIntW = y_binIntW
  generalize @condP = y_condP
  generalize @load1W = y_load1W
  generalize @nilW = y_nilW
  generalize @storeW = y_storeW
  rfl

/-- epoch_Slots_Load -/
def P_epoch_Slots_Load (a0 a1 : Value) (K : KV) : World → Prop := fun w =>
 CP Tryz.prog Fn.epoch_Slots_is [a0, a1] (fun x1 w =>
 notW x1 (fun x2 w =>
 condP x2 (fun w => K (Value.tuple #[(Value.int .u64 0), (Value.int .i64 2)]) w) (fun w => nilW a0 (fun x3 w =>
 addW 0 x3 (fun x4 w =>
 load1W x4 (fun x5 w =>
 idxW 1 x5 a1 (fun x6 w =>
 load1W x6 (fun x7 w =>
 K (Value.tuple #[x7, (Value.int .i64 0)]) w) w) w) w) w) w) w) w) w

theorem Q_epoch_Slots_Load (a0 a1 : Value) (K : KV) : S_epoch_Slots_Load a0 a1 K = P_epoch_Slots_Load a0 a1 K := by
  unfold S_epoch_Slots_Load P_epoch_Slots_Load
  generalize @CP = y_CP
  generalize @addW = y_addW
  generalize @condP = y_condP
  generalize @idxW = y_idxW
  generalize @load1W = y_load1W
  generalize @nilW = y_nilW
  generalize @notW = y_notW
  rfl

/-- epoch_Slots_Store -/
def P_epoch_Slots_Store (a0 a1 a2 : Value) (K : KV) : World → Prop := fun w =>
 CP Tryz.prog Fn.epoch_Slots_is [a0, a1] (fun x1 w =>
 notW x1 (fun x2 w =>
 condP x2 (fun w => K (Value.int .i64 2) w) (fun w => nilW a0 (fun x3 w =>
 addW 0 x3 (fun x4 w =>
 load1W x4 (fun x5 w =>
 idxW 1 x5 a1 (fun x6 w =>
 storeW 1 x6 a2 (fun _ w =>
 K (Value.int .i64 0) w) w) w) w) w) w) w) w) w

theorem Q_epoch_Slots_Store (a0 a1 a2 : Value) (K : KV) : S_epoch_Slots_Store a0 a1 a2 K = P_epoch_Slots_Store a0 a1 a2 K := by
  unfold S_epoch_Slots_Store P_epoch_Slots_Store
  generalize @CP = y_CP
  generalize @addW = y_addW
  generalize @condP = y_condP
  generalize @idxW = y_idxW
  generalize @load1W = y_load1W
  generalize @nilW = y_nilW
  generalize @notW = y_notW
  generalize @storeW = y_storeW
  rfl

/-- slices_Clone_api_Lock_api_Lock -/
def P_slices_Clone_api_Lock_api_Lock (a0 : Value) (K : KV) : World → Prop := fun w =>
 eqNilSliceW .eql a0 (Value.slice none 0 0) (fun x1 w =>
 condP x1 (fun w => K (Value.slice none 0 0) w) (fun w => buildSliceW [(Value.int .u64 0), (Value.bool false), (Value.int .i64 0)] 0 [] (fun x2 w =>
 appendW 3 24 x2 a0 (fun x3 w =>
 K x3 w) w) w) w) w

theorem Q_slices_Clone_api_Lock_api_Lock (a0 : Value) (K : KV) : S_slices_Clone_api_Lock_api_Lock a0 K = P_slices_Clone_api_Lock_api_Lock a0 K := by
  unfold S_slices_Clone_api_Lock_api_Lock P_slices_Clone_api_Lock_api_Lock
  generalize @appendW = y_appendW
  generalize @buildSliceW = y_buildSliceW
  generalize @condP = y_condP
  generalize @eqNilSliceW = y_eqNilSliceW
  rfl

/-- slices_Clone_uint64_uint64 -/
def P_slices_Clone_uint64_uint64 (a0 : Value) (K : KV) : World → Prop := fun w =>
 eqNilSliceW .eql a0 (Value.slice none 0 0) (fun x1 w =>
 condP x1 (fun w => K (Value.slice none 0 0) w) (fun w => buildSliceW [(Value.int .u64 0)] 0 [] (fun x2 w =>
 appendW 1 8 x2 a0 (fun x3 w =>
 K x3 w) w) w) w) w

theorem Q_slices_Clone_uint64_uint64 (a0 : Value) (K : KV) : S_slices_Clone_uint64_uint64 a0 K = P_slices_Clone_uint64_uint64 a0 K := by
  unfold S_slices_Clone_uint64_uint64 P_slices_Clone_uint64_uint64
  generalize @appendW = y_appendW
  generalize @buildSliceW = y_buildSliceW
  generalize @condP = y_condP
  generalize @eqNilSliceW = y_eqNilSliceW
  rfl

/-- math_bits_Len -/
def P_math_bits_Len (a0 : Value) (K : KV) : World → Prop := fun w =>
 condP (Value.bool false) (fun w => convW .u32 a0 (fun x1 w =>
 CP Tryz.prog Fn.math_bits_Len32 [x1] (fun x2 w =>
 K x2 w) w) w) (fun w => CP Tryz.prog Fn.math_bits_Len64 [a0] (fun x3 w =>
 K x3 w) w) w

theorem Q_math_bits_Len (a0 : Value) (K : KV) : S_math_bits_Len a0 K = P_math_bits_Len a0 K := by
  unfold S_math_bits_Len P_math_bits_Len
  generalize @CP = y_CP
  generalize @condP = y_condP
  generalize @convW = y_convW
  rfl

/-- patience_Patience_Waits -/
def P_patience_Patience_Waits (a0 a1 : Value) (K : KV) : World → Prop := fun w =>
 boxW a1 (fun x1 w =>
 drewW (fun w => addW 2 x1 (fun x2 w =>
 load1W x2 (fun x3 w =>
 nilW a0 (fun x4 w =>
 addW 0 x4 (fun x5 w =>
 load1W x5 (fun x6 w =>
 binIntW .gtr x3 x6 (fun x7 w =>
 condP x7 (fun w => K (Value.bool true) w) (fun w => nilW a0 (fun x8 w =>
 addW 1 x8 (fun x9 w =>
 load1W x9 (fun x10 w =>
 binIntW .sub x10 (Value.int .i64 1) (fun x11 w =>
 nilW a0 (fun x12 w =>
 addW 1 x12 (fun x13 w =>
 storeW 1 x13 x11 (fun _ w =>
 nilW a0 (fun x15 w =>
 addW 1 x15 (fun x16 w =>
 load1W x16 (fun x17 w =>
 binIntW .geq x17 (Value.int .i64 0) (fun x18 w =>
 K x18 w) w) w) w) w) w) w) w) w) w) w) w) w) w) w) w) w) w) w) w) w

theorem Q_patience_Patience_Waits (a0 a1 : Value) (K : KV) : S_patience_Patience_Waits a0 a1 K = P_patience_Patience_Waits a0 a1 K := by
  unfold S_patience_Patience_Waits P_patience_Patience_Waits
  generalize @addW = y_addW
  generalize @binIntW = y_binIntW
  generalize @boxW = y_boxW
  generalize @condP = y_condP
  generalize @drewW = y_drewW
  generalize @load1W = y_load1W
  generalize @nilW = y_nilW
  generalize @storeW = y_storeW
  rfl

/-- slices_BinarySearch_int_int -/
def P_slices_BinarySearch_int_int (a0 a1 : Value) (K : KV) : World → Prop := fun w =>
 lenW a0 (fun x1 w =>
 loopW2 (Value.int .i64 0) x1 (fun J1 x2 x3 w =>
 binIntW .lss x2 x3 (fun x4 w =>
 condP x4 (fun w => binIntW .add x2 x3 (fun x5 w =>
 convW .u64 x5 (fun x6 w =>
 binIntW .shr x6 (Value.int .u64 1) (fun x7 w =>
 convW .i64 x7 (fun x8 w =>
 idxW 1 a0 x8 (fun x9 w =>
 load1W x9 (fun x10 w =>
 CP Tryz.prog Fn.cmp_Less_int [x10, a1] (fun x11 w =>
 joinW2 (fun x12 x13 w =>
 J1 x12 x13 w) (fun j1 w =>
 condP x11 (fun w => binIntW .add x8 (Value.int .i64 1) (fun x14 w =>
 j1 x14 x3 w) w) (fun w => j1 x2 x8 w) w) w) w) w) w) w) w) w) w) (fun w => binIntW .lss x2 x1 (fun x15 w =>
 gW x15 true (fun K w => K a0 w) (fun x16 w =>
 gW x15 true (fun K w => K x2 w) (fun x17 w =>
 gW x15 true (fun K w => idxW 1 x16 x17 K w) (fun x18 w =>
 gW x15 true (fun K w => load1W x18 K w) (fun x19 w =>
 gW x15 true (fun K w => K a1 w) (fun x20 w =>
 gW x15 true (fun K w => binIntW .eql x19 x20 K w) (fun x21 w =>
 gW x15 true (fun K w => K x21 w) (fun x22 w =>
 gW x22 false (fun K w => K a0 w) (fun x23 w =>
 gW x22 false (fun K w => K x2 w) (fun x24 w =>
 gW x22 false (fun K w => idxW 1 x23 x24 K w) (fun x25 w =>
 gW x22 false (fun K w => load1W x25 K w) (fun x26 w =>
 gW x22 false (fun K w => CP Tryz.prog Fn.slices_isNaN_int [x26] K w) (fun x27 w =>
 gW x22 false (fun K w => K x27 w) (fun x28 w =>
 gW x28 true (fun K w => K a1 w) (fun x29 w =>
 gW x28 true (fun K w => CP Tryz.prog Fn.slices_isNaN_int [x29] K w) (fun x30 w =>
 gW x22 false (fun K w => pickW x28 x30 (Value.bool false) K w) (fun x31 w =>
 gW x15 true (fun K w => pickW x22 (Value.bool true) x31 K w) (fun x32 w =>
 pickW x15 x32 (Value.bool false) (fun x33 w =>
 K (Value.tuple #[x2, x33]) w) w) w) w) w) w) w) w) w) w) w) w) w) w) w) w) w) w) w) w) w) w) w) w

theorem Q_slices_BinarySearch_int_int (a0 a1 : Value) (K : KV) : S_slices_BinarySearch_int_int a0 a1 K = P_slices_BinarySearch_int_int a0 a1 K := by
  unfold S_slices_BinarySearch_int_int P_slices_BinarySearch_int_int
  generalize @CP = y_CP
  generalize @binIntW = y_binIntW
  generalize @condP = y_condP
  generalize @convW = y_convW
  generalize @gW = y_gW
  generalize @idxW = y_idxW
  generalize @joinW2 = y_joinW2
  generalize @lenW = y_lenW
  generalize @load1W = y_load1W
  generalize @loopW2 = y_loopW2
  generalize @pickW = y_pickW
  rfl

/-- heap_Heap_is -/
def P_heap_Heap_is (a0 a1 : Value) (K : KV) : World → Prop := fun w =>
 binIntW .geq a1 (Value.int .i64 1) (fun x1 w =>
 gW x1 true (fun K w => K a1 w) (fun x2 w =>
 gW x1 true (fun K w => K a0 w) (fun x3 w =>
 gW x1 true (fun K w => nilW x3 K w) (fun x4 w =>
 gW x1 true (fun K w => addW 0 x4 K w) (fun x5 w =>
 gW x1 true (fun K w => load1W x5 K w) (fun x6 w =>
 gW x1 true (fun K w => lenW x6 K w) (fun x7 w =>
 gW x1 true (fun K w => binIntW .lss x2 x7 K w) (fun x8 w =>
 pickW x1 x8 (Value.bool false) (fun x9 w =>
 K x9 w) w) w) w) w) w) w) w) w) w

theorem Q_heap_Heap_is (a0 a1 : Value) (K : KV) : S_heap_Heap_is a0 a1 K = P_heap_Heap_is a0 a1 K := by
  unfold S_heap_Heap_is P_heap_Heap_is
  generalize @addW = y_addW
  generalize @binIntW = y_binIntW
  generalize @gW = y_gW
  generalize @lenW = y_lenW
  generalize @load1W = y_load1W
  generalize @nilW = y_nilW
  generalize @pickW = y_pickW
  rfl

/-- stripe_Table_is -/
def P_stripe_Table_is (a0 a1 : Value) (K : KV) : World → Prop := fun w =>
 binIntW .geq a1 (Value.int .i64 0) (fun x1 w =>
 gW x1 true (fun K w => K a1 w) (fun x2 w =>
 gW x1 true (fun K w => K a0 w) (fun x3 w =>
 gW x1 true (fun K w => nilW x3 K w) (fun x4 w =>
 gW x1 true (fun K w => addW 0 x4 K w) (fun x5 w =>
 gW x1 true (fun K w => load1W x5 K w) (fun x6 w =>
 gW x1 true (fun K w => lenW x6 K w) (fun x7 w =>
 gW x1 true (fun K w => binIntW .lss x2 x7 K w) (fun x8 w =>
 pickW x1 x8 (Value.bool false) (fun x9 w =>
 K x9 w) w) w) w) w) w) w) w) w) w

theorem Q_stripe_Table_is (a0 a1 : Value) (K : KV) : S_stripe_Table_is a0 a1 K = P_stripe_Table_is a0 a1 K := by
  unfold S_stripe_Table_is P_stripe_Table_is
  generalize @addW = y_addW
  generalize @binIntW = y_binIntW
  generalize @gW = y_gW
  generalize @lenW = y_lenW
  generalize @load1W = y_load1W
  generalize @nilW = y_nilW
  generalize @pickW = y_pickW
  rfl

/-- stripe_Table_may -/
def P_stripe_Table_may (a0 a1 a2 : Value) (K : KV) : World → Prop := fun w =>
 boxW a2 (fun x1 w =>
 CP Tryz.prog Fn.stripe_Table_is [a0, a1] (fun x2 w =>
 notW x2 (fun x3 w =>
 condP x3 (fun w => K (Value.int .i64 2) w) (fun w => loadNW 3 x1 (fun x4 w =>
 CP Tryz.prog Fn.lock_Is [x4] (fun x5 w =>
 notW x5 (fun x6 w =>
 condP x6 (fun w => K (Value.int .i64 1) w) (fun w => K (Value.int .i64 0) w) w) w) w) w) w) w) w) w

theorem Q_stripe_Table_may (a0 a1 a2 : Value) (K : KV) : S_stripe_Table_may a0 a1 a2 K = P_stripe_Table_may a0 a1 a2 K := by
  unfold S_stripe_Table_may P_stripe_Table_may
  generalize @CP = y_CP
  generalize @boxW = y_boxW
  generalize @condP = y_condP
  generalize @loadNW = y_loadNW
  generalize @notW = y_notW
  rfl

/-- epoch_Slots_is -/
def P_epoch_Slots_is (a0 a1 : Value) (K : KV) : World → Prop := fun w =>
 binIntW .geq a1 (Value.int .i64 0) (fun x1 w =>
 gW x1 true (fun K w => K a1 w) (fun x2 w =>
 gW x1 true (fun K w => K a0 w) (fun x3 w =>
 gW x1 true (fun K w => nilW x3 K w) (fun x4 w =>
 gW x1 true (fun K w => addW 0 x4 K w) (fun x5 w =>
 gW x1 true (fun K w => load1W x5 K w) (fun x6 w =>
 gW x1 true (fun K w => lenW x6 K w) (fun x7 w =>
 gW x1 true (fun K w => binIntW .lss x2 x7 K w) (fun x8 w =>
 pickW x1 x8 (Value.bool false) (fun x9 w =>
 K x9 w) w) w) w) w) w) w) w) w) w

theorem Q_epoch_Slots_is (a0 a1 : Value) (K : KV) : S_epoch_Slots_is a0 a1 K = P_epoch_Slots_is a0 a1 K := by
  unfold S_epoch_Slots_is P_epoch_Slots_is
  generalize @addW = y_addW
  generalize @binIntW = y_binIntW
  generalize @gW = y_gW
  generalize @lenW = y_lenW
  generalize @load1W = y_load1W
  generalize @nilW = y_nilW
  generalize @pickW = y_pickW
  rfl

/-- cmp_Less_int -/
def P_cmp_Less_int (a0 a1 : Value) (K : KV) : World → Prop := fun w =>
 CP Tryz.prog Fn.cmp_isNaN_int [a0] (fun x1 w =>
 gW x1 true (fun K w => K a1 w) (fun x2 w =>
 gW x1 true (fun K w => CP Tryz.prog Fn.cmp_isNaN_int [x2] K w) (fun x3 w =>
 gW x1 true (fun K w => notW x3 K w) (fun x4 w =>
 pickW x1 x4 (Value.bool false) (fun x5 w =>
 gW x5 false (fun K w => K a0 w) (fun x6 w =>
 gW x5 false (fun K w => K a1 w) (fun x7 w =>
 gW x5 false (fun K w => binIntW .lss x6 x7 K w) (fun x8 w =>
 pickW x5 (Value.bool true) x8 (fun x9 w =>
 K x9 w) w) w) w) w) w) w) w) w) w

theorem Q_cmp_Less_int (a0 a1 : Value) (K : KV) : S_cmp_Less_int a0 a1 K = P_cmp_Less_int a0 a1 K := by
  unfold S_cmp_Less_int P_cmp_Less_int
  generalize @CP = y_CP
  generalize @binIntW = y_binIntW
  generalize @gW = y_gW
  generalize @notW = y_notW
  generalize @pickW = y_pickW
  rfl

/-- slices_isNaN_int -/
def P_slices_isNaN_int (a0 : Value) (K : KV) : World → Prop := fun w =>
 binIntW .neq a0 a0 (fun x1 w =>
 K x1 w) w

theorem Q_slices_isNaN_int (a0 : Value) (K : KV) : S_slices_isNaN_int a0 K = P_slices_isNaN_int a0 K := by
  unfold S_slices_isNaN_int P_slices_isNaN_int
  generalize @binIntW = y_binIntW
  rfl

/-- lock_Is -/
def P_lock_Is (a0 : Value) (K : KV) : World → Prop := fun w =>
 boxW a0 (fun x1 w =>
 addW 1 x1 (fun x2 w =>
 load1W x2 (fun x3 w =>
 condP x3 (fun w => addW 0 x1 (fun x4 w =>
 load1W x4 (fun x5 w =>
 binIntW .lss x5 (Value.int .u64 4611686018427387904) (fun x6 w =>
 gW x6 true (fun K w => addW 2 x1 K w) (fun x7 w =>
 gW x6 true (fun K w => load1W x7 K w) (fun x8 w =>
 gW x6 true (fun K w => CP Tryz.prog Fn.lock_owns [x8] K w) (fun x9 w =>
 pickW x6 x9 (Value.bool false) (fun x10 w =>
 K x10 w) w) w) w) w) w) w) w) (fun w => addW 0 x1 (fun x11 w =>
 load1W x11 (fun x12 w =>
 binIntW .lss x12 (Value.int .u64 4611686018427387904) (fun x13 w =>
 gW x13 true (fun K w => addW 2 x1 K w) (fun x14 w =>
 gW x13 true (fun K w => load1W x14 K w) (fun x15 w =>
 gW x13 true (fun K w => binIntW .eql x15 (Value.int .i64 0) K w) (fun x16 w =>
 pickW x13 x16 (Value.bool false) (fun x17 w =>
 K x17 w) w) w) w) w) w) w) w) w) w) w) w

theorem Q_lock_Is (a0 : Value) (K : KV) : S_lock_Is a0 K = P_lock_Is a0 K := by
  unfold S_lock_Is P_lock_Is
  generalize @CP = y_CP
  generalize @addW = y_addW
  generalize @binIntW = y_binIntW
  generalize @boxW = y_boxW
  generalize @condP = y_condP
  generalize @gW = y_gW
  generalize @load1W = y_load1W
  generalize @pickW = y_pickW
  rfl

/-- cmp_isNaN_int -/
def P_cmp_isNaN_int (a0 : Value) (K : KV) : World → Prop := fun w =>
 binIntW .neq a0 a0 (fun x1 w =>
 K x1 w) w

theorem Q_cmp_isNaN_int (a0 : Value) (K : KV) : S_cmp_isNaN_int a0 K = P_cmp_isNaN_int a0 K := by
  unfold S_cmp_isNaN_int P_cmp_isNaN_int
  generalize @binIntW = y_binIntW
  rfl

/-- lock_owns -/
def P_lock_owns (a0 : Value) (K : KV) : World → Prop := fun w =>
 binIntW .geq a0 (Value.int .i64 0) (fun x1 w =>
 gW x1 true (fun K w => K a0 w) (fun x2 w =>
 gW x1 true (fun K w => binIntW .lss x2 (Value.int .i64 4) K w) (fun x3 w =>
 pickW x1 x3 (Value.bool false) (fun x4 w =>
 K x4 w) w) w) w) w

theorem Q_lock_owns (a0 : Value) (K : KV) : S_lock_owns a0 K = P_lock_owns a0 K := by
  unfold S_lock_owns P_lock_owns
  generalize @binIntW = y_binIntW
  generalize @gW = y_gW
  generalize @pickW = y_pickW
  rfl

end Go.Proofs.YtokbiojkpldfeaaGreat.S
