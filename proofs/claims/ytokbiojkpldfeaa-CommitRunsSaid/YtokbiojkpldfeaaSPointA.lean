/-
  THE PLAIN FORMS, WITH THE WORLD NAMED AT EACH STEP, by a program.
-/
import Derived.Test.YtokbiojkpldfeaaSForm
namespace Go.Proofs.Ytokbiojkpldfeaa.S
open Go Go.Proofs
set_option linter.unusedVariables false
set_option maxRecDepth 100000
/-- law25_CommitRuns -/
def P_law25_CommitRuns (K : KV) : World → Prop := fun w =>
 buildW [(Value.int .i64 0), (Value.int .i64 0), (Value.int .i64 0), (Value.int .i64 0), (Value.int .u64 0)] [(0, 1, (Value.int .i64 32)), (1, 1, (Value.int .i64 4)), (2, 1, (Value.int .i64 1)), (3, 1, (Value.int .i64 2)), (4, 1, (Value.int .u64 5))] (fun x1 w =>
 CP Try.prog Fn.mem_New [x1] (fun x2 w =>
 buildW [(Value.int .i64 0), (Value.int .u64 0)] [(0, 1, (Value.int .i64 9)), (1, 1, (Value.int .u64 7))] (fun x3 w =>
 buildSliceW [(Value.int .i64 0), (Value.int .u64 0)] 1 [(0, 2, x3)] (fun x4 w =>
 CP Try.prog Fn.commit_New [(Value.int .i64 0), (Value.int .i64 2), (Value.int .u64 5), (Value.slice none 0 0), x4, (Value.int .i64 4), (Value.int .i64 1)] (fun x5 w =>
 eqNilW .eql x2 (Value.pointer none) (fun x6 w =>
 gW x6 false (fun K w => K x5 w) (fun x7 w =>
 gW x6 false (fun K w => eqNilW .eql x7 (Value.pointer none) K w) (fun x8 w =>
 pickW x6 (Value.bool true) x8 (fun x9 w =>
 condP x9 (fun w => K (Value.bool false) w) (fun w => buildSliceW [(Value.int .i64 0)] 6 [(0, 1, (Value.int .i64 3)), (1, 1, (Value.int .i64 4)), (2, 1, (Value.int .i64 6)), (3, 1, (Value.int .i64 7)), (4, 1, (Value.int .i64 2)), (5, 1, (Value.int .i64 5))] (fun x10 w =>
 loopW1 (Value.int .i64 0) (fun J1 x11 w =>
 lenW x10 (fun x12 w =>
 binIntW .lss x11 x12 (fun x13 w =>
 condP x13 (fun w => CP Try.prog Fn.commit_Commit_Next [x5] (fun x14 w =>
 extractW 0 x14 (fun x15 w =>
 extractW 1 x14 (fun x16 w =>
 newW #[(Value.int .i64 0), (Value.int .i64 0), (Value.int .u64 0), (Value.int .u64 0), (Value.int .u64 0), (Value.bool false), (Value.int .i64 0), (Value.int .u64 0), (Value.bool false), (Value.int .i64 0)] (fun x17 w =>
 storeW 10 x17 x15 (fun _ w =>
 drewW (fun w => notW x16 (fun x19 w =>
 gW x19 false (fun K w => addW 0 x17 K w) (fun x20 w =>
 gW x19 false (fun K w => load1W x20 K w) (fun x21 w =>
 gW x19 false (fun K w => K x10 w) (fun x22 w =>
 gW x19 false (fun K w => K x11 w) (fun x23 w =>
 gW x19 false (fun K w => idxW 1 x22 x23 K w) (fun x24 w =>
 gW x19 false (fun K w => load1W x24 K w) (fun x25 w =>
 gW x19 false (fun K w => binIntW .neq x21 x25 K w) (fun x26 w =>
 pickW x19 (Value.bool true) x26 (fun x27 w =>
 gW x27 false (fun K w => K x5 w) (fun x28 w =>
 gW x27 false (fun K w => K x11 w) (fun x29 w =>
 gW x27 false (fun K w => binIntW .gtr x29 (Value.int .i64 3) K w) (fun x30 w =>
 gW x27 false (fun K w => CP Try.prog Fn.commit_Commit_Writing [x28] K w) (fun x31 w =>
 andP (fun w => andP (fun w => trueP w) (fun w => andP (fun w => trueP w) (fun w => trueP w) w) w) (fun w =>
 gW x27 false (fun K w => binBoolW .neq x31 x30 K w) (fun x32 w =>
 pickW x27 (Value.bool true) x32 (fun x33 w =>
 condP x33 (fun w => K (Value.bool false) w) (fun w => loadNW 10 x17 (fun x34 w =>
 CP Try.prog Fn.mem_Mem_Do [x2, x34] (fun x35 w =>
 CP Try.prog Fn.commit_Commit_Tell [x5, x35] (fun x36 w =>
 binIntW .add x11 (Value.int .i64 1) (fun x37 w =>
 J1 x37 w) w) w) w) w) w) w) w) w) w) w) w) w) w) w) w) w) w) w) w) w) w) w) w) w) w) w) w) (fun w => CP Try.prog Fn.mem_Mem_Locks [x2] (fun x38 w =>
 CP Try.prog Fn.mem_Mem_Words [x2] (fun x39 w =>
 CP Try.prog Fn.commit_Commit_End [x5] (fun x40 w =>
 binIntW .eql x40 (Value.int .i64 2) (fun x41 w =>
 gW x41 true (fun K w => K x5 w) (fun x42 w =>
 gW x41 true (fun K w => CP Try.prog Fn.commit_Commit_Stamp [x42] K w) (fun x43 w =>
 gW x41 true (fun K w => binIntW .eql x43 (Value.int .u64 6) K w) (fun x44 w =>
 pickW x41 x44 (Value.bool false) (fun x45 w =>
 gW x45 true (fun K w => K x38 w) (fun x46 w =>
 gW x45 true (fun K w => lenW x46 K w) (fun x47 w =>
 gW x45 true (fun K w => binIntW .eql x47 (Value.int .i64 4) K w) (fun x48 w =>
 pickW x45 x48 (Value.bool false) (fun x49 w =>
 gW x49 true (fun K w => K x38 w) (fun x50 w =>
 gW x49 true (fun K w => idxW 3 x50 (Value.int .i64 1) K w) (fun x51 w =>
 gW x49 true (fun K w => loadNW 3 x51 K w) (fun x52 w =>
 gW x49 true (fun K w => buildW [(Value.int .u64 0), (Value.bool false), (Value.int .i64 0)] [(0, 1, (Value.int .u64 6))] K w) (fun x53 w =>
 gW x49 true (fun K w => eqAggW [.i .u64, .b, .i .i64] .eql x52 x53 K w) (fun x54 w =>
 pickW x49 x54 (Value.bool false) (fun x55 w =>
 gW x55 true (fun K w => K x39 w) (fun x56 w =>
 gW x55 true (fun K w => lenW x56 K w) (fun x57 w =>
 gW x55 true (fun K w => binIntW .eql x57 (Value.int .i64 32) K w) (fun x58 w =>
 pickW x55 x58 (Value.bool false) (fun x59 w =>
 gW x59 true (fun K w => K x39 w) (fun x60 w =>
 gW x59 true (fun K w => idxW 1 x60 (Value.int .i64 9) K w) (fun x61 w =>
 gW x59 true (fun K w => load1W x61 K w) (fun x62 w =>
 gW x59 true (fun K w => binIntW .eql x62 (Value.int .u64 7) K w) (fun x63 w =>
 pickW x59 x63 (Value.bool false) (fun x64 w =>
 gW x64 true (fun K w => K x2 w) (fun x65 w =>
 gW x64 true (fun K w => CP Try.prog Fn.mem_Mem_Now [x65] K w) (fun x66 w =>
 gW x64 true (fun K w => binIntW .eql x66 (Value.int .u64 6) K w) (fun x67 w =>
 pickW x64 x67 (Value.bool false) (fun x68 w =>
 K x68 w) w) w) w) w) w) w) w) w) w) w) w) w) w) w) w) w) w) w) w) w) w) w) w) w) w) w) w) w) w) w) w) w) w) w) w) w) w) w) w) w) w) w) w) w) w) w

theorem Q_law25_CommitRuns (K : KV) : S_law25_CommitRuns K = P_law25_CommitRuns K := by
  unfold S_law25_CommitRuns P_law25_CommitRuns
  generalize @CP = y_CP
  generalize @addW = y_addW
  generalize @andP = y_andP
  generalize @binBoolW = y_binBoolW
  generalize @binIntW = y_binIntW
  generalize @buildSliceW = y_buildSliceW
  generalize @buildW = y_buildW
  generalize @condP = y_condP
  generalize @drewW = y_drewW
  generalize @eqAggW = y_eqAggW
  generalize @eqNilW = y_eqNilW
  generalize @extractW = y_extractW
  generalize @gW = y_gW
  generalize @idxW = y_idxW
  generalize @lenW = y_lenW
  generalize @load1W = y_load1W
  generalize @loadNW = y_loadNW
  generalize @loopW1 = y_loopW1
  generalize @newW = y_newW
  generalize @notW = y_notW
  generalize @pickW = y_pickW
  generalize @storeW = y_storeW
  rfl

/-- law25_CommitLets -/
def P_law25_CommitLets (a0 a1 a2 a3 a4 : Value) (K : KV) : World → Prop := fun w =>
 CP Try.prog Fn.law25_CommitRuns [] (fun x1 w =>
 notW x1 (fun x2 w =>
 condP x2 (fun w => K (Value.bool false) w) (fun w => buildW [(Value.int .i64 0), (Value.int .i64 0), (Value.int .i64 0), (Value.int .i64 0), (Value.int .u64 0)] [(0, 1, (Value.int .i64 64)), (1, 1, (Value.int .i64 8)), (2, 1, (Value.int .i64 1)), (3, 1, (Value.int .i64 4)), (4, 1, (Value.int .u64 3))] (fun x3 w =>
 CP Try.prog Fn.mem_New [x3] (fun x4 w =>
 eqNilW .eql x4 (Value.pointer none) (fun x5 w =>
 condP x5 (fun w => K (Value.bool false) w) (fun w => loopW2 (Value.slice none 0 0) (Value.int .i64 0) (fun J1 x6 x7 w =>
 lenW a0 (fun x8 w =>
 binIntW .lss x7 x8 (fun x9 w =>
 gW x9 true (fun K w => K x7 w) (fun x10 w =>
 gW x9 true (fun K w => binIntW .lss x10 (Value.int .i64 20) K w) (fun x11 w =>
 pickW x9 x11 (Value.bool false) (fun x12 w =>
 condP x12 (fun w => drewW (fun w => idxW 2 a0 x7 (fun x13 w =>
 addW 0 x13 (fun x14 w =>
 load1W x14 (fun x15 w =>
 idxW 2 a0 x7 (fun x16 w =>
 addW 1 x16 (fun x17 w =>
 load1W x17 (fun x18 w =>
 CP Try.prog Fn.book_Within [x15, (Value.int .i64 1), (Value.int .i64 63)] (fun x19 w =>
 andP (fun w => andP (fun w => load1W x17 (fun v w => eqP v x18 w) w) (fun w => andP (fun w => trueP w) (fun w => trueP w) w) w) (fun w =>
 CP Try.prog Fn.ref7_Put [x6, x19, x18] (fun x20 w =>
 andP (fun w => andP (fun w => trueP w) (fun w => trueP w) w) (fun w =>
 binIntW .add x7 (Value.int .i64 1) (fun x21 w =>
 J1 x20 x21 w) w) w) w) w) w) w) w) w) w) w) w) w) (fun w => lenW x6 (fun x22 w =>
 binIntW .eql x22 (Value.int .i64 0) (fun x23 w =>
 condP x23 (fun w => K (Value.bool true) w) (fun w => binIntW .rem a1 (Value.int .u8 8) (fun x24 w =>
 convW .i64 x24 (fun x25 w =>
 binIntW .rem a2 (Value.int .u8 3) (fun x26 w =>
 convW .i64 x26 (fun x27 w =>
 joinW2 (fun x28 x29 w =>
 CP Try.prog Fn.mem_Mem_Locks [x4] (fun x30 w =>
 binIntW .rem a4 (Value.int .u8 5) (fun x31 w =>
 convW .i64 x31 (fun x32 w =>
 CP Try.prog Fn.commit_New [(Value.int .i64 3), x32, (Value.int .u64 1), x28, x6, (Value.int .i64 8), (Value.int .i64 1)] (fun x33 w =>
 eqNilW .eql x33 (Value.pointer none) (fun x34 w =>
 gW x34 false (fun K w => K x33 w) (fun x35 w =>
 gW x34 false (fun K w => K x4 w) (fun x36 w =>
 gW x34 false (fun K w => CP Try.prog Fn.law25_alone [x35, x36] K w) (fun x37 w =>
 gW x34 false (fun K w => notW x37 K w) (fun x38 w =>
 pickW x34 (Value.bool true) x38 (fun x39 w =>
 condP x39 (fun w => K (Value.bool false) w) (fun w => CP Try.prog Fn.mem_Mem_Words [x4] (fun x40 w =>
 loopW1 (Value.int .i64 0) (fun J2 x41 w =>
 lenW x40 (fun x42 w =>
 binIntW .lss x41 x42 (fun x43 w =>
 condP x43 (fun w => idxW 1 x40 x41 (fun x44 w =>
 load1W x44 (fun x45 w =>
 binIntW .neq x45 (Value.int .u64 0) (fun x46 w =>
 condP x46 (fun w => K (Value.bool false) w) (fun w => binIntW .add x41 (Value.int .i64 1) (fun x47 w =>
 J2 x47 w) w) w) w) w) w) (fun w => lenW x40 (fun x48 w =>
 binIntW .eql x48 (Value.int .i64 64) (fun x49 w =>
 gW x49 true (fun K w => K x33 w) (fun x50 w =>
 gW x49 true (fun K w => CP Try.prog Fn.commit_Commit_End [x50] K w) (fun x51 w =>
 gW x49 true (fun K w => binIntW .eql x51 (Value.int .i64 5) K w) (fun x52 w =>
 pickW x49 x52 (Value.bool false) (fun x53 w =>
 gW x53 true (fun K w => K x33 w) (fun x54 w =>
 gW x53 true (fun K w => CP Try.prog Fn.commit_Commit_By [x54] K w) (fun x55 w =>
 gW x53 true (fun K w => K x29 w) (fun x56 w =>
 gW x53 true (fun K w => binIntW .eql x55 x56 K w) (fun x57 w =>
 pickW x53 x57 (Value.bool false) (fun x58 w =>
 gW x58 true (fun K w => K x33 w) (fun x59 w =>
 gW x58 true (fun K w => CP Try.prog Fn.commit_Commit_Stamp [x59] K w) (fun x60 w =>
 gW x58 true (fun K w => binIntW .eql x60 (Value.int .u64 0) K w) (fun x61 w =>
 pickW x58 x61 (Value.bool false) (fun x62 w =>
 gW x62 true (fun K w => K x4 w) (fun x63 w =>
 gW x62 true (fun K w => CP Try.prog Fn.mem_Mem_Locks [x63] K w) (fun x64 w =>
 gW x62 true (fun K w => K x30 w) (fun x65 w =>
 gW x62 true (fun K w => CP Try.prog Fn.book_Same_api_Lock [x64, x65] K w) (fun x66 w =>
 pickW x62 x66 (Value.bool false) (fun x67 w =>
 K x67 w) w) w) w) w) w) w) w) w) w) w) w) w) w) w) w) w) w) w) w) w) w) w) w) w) w) w) w) w) w) w) w) w) w) w) w) w) (fun j1 w =>
 condP a3 (fun w => buildW [(Value.int .u64 0), (Value.bool false), (Value.int .i64 0)] [(0, 1, (Value.int .u64 2))] (fun x68 w =>
 buildW [(Value.int .i64 0), (Value.int .i64 0), (Value.int .u64 0), (Value.int .u64 0), (Value.int .u64 0), (Value.bool false), (Value.int .i64 0), (Value.int .u64 0), (Value.bool false), (Value.int .i64 0)] [(0, 1, (Value.int .i64 5)), (1, 1, x25), (7, 3, x68)] (fun x69 w =>
 CP Try.prog Fn.mem_Mem_Do [x4, x69] (fun x70 w =>
 buildW [(Value.int .i64 0), (Value.int .u64 0)] [(0, 1, x25), (1, 1, (Value.int .u64 1))] (fun x71 w =>
 buildSliceW [(Value.int .i64 0), (Value.int .u64 0)] 1 [(0, 2, x71)] (fun x72 w =>
 appendW 2 16 (Value.slice none 0 0) x72 (fun x73 w =>
 j1 x73 (Value.int .i64 (-1)) w) w) w) w) w) w) w) (fun w => convW .i64 a1 (fun x74 w =>
 lenW x6 (fun x75 w =>
 binIntW .rem x74 x75 (fun x76 w =>
 idxW 2 x6 x76 (fun x77 w =>
 addW 0 x77 (fun x78 w =>
 load1W x78 (fun x79 w =>
 CP Try.prog Fn.ref1_Of [x79, (Value.int .i64 8), (Value.int .i64 1)] (fun x80 w =>
 buildW [(Value.int .u64 0), (Value.bool false), (Value.int .i64 0)] [(0, 1, (Value.int .u64 1)), (1, 1, (Value.bool true)), (2, 1, x27)] (fun x81 w =>
 buildW [(Value.int .i64 0), (Value.int .i64 0), (Value.int .u64 0), (Value.int .u64 0), (Value.int .u64 0), (Value.bool false), (Value.int .i64 0), (Value.int .u64 0), (Value.bool false), (Value.int .i64 0)] [(0, 1, (Value.int .i64 5)), (1, 1, x80), (7, 3, x81)] (fun x82 w =>
 CP Try.prog Fn.mem_Mem_Do [x4, x82] (fun x83 w =>
 j1 (Value.slice none 0 0) x27 w) w) w) w) w) w) w) w) w) w) w) w) w) w) w) w) w) w) w) w) w) w) w) w) w) w) w) w) w) w) w) w) w) w

theorem Q_law25_CommitLets (a0 a1 a2 a3 a4 : Value) (K : KV) : S_law25_CommitLets a0 a1 a2 a3 a4 K = P_law25_CommitLets a0 a1 a2 a3 a4 K := by
  unfold S_law25_CommitLets P_law25_CommitLets
  generalize @CP = y_CP
  generalize @addW = y_addW
  generalize @andP = y_andP
  generalize @appendW = y_appendW
  generalize @binIntW = y_binIntW
  generalize @buildSliceW = y_buildSliceW
  generalize @buildW = y_buildW
  generalize @condP = y_condP
  generalize @convW = y_convW
  generalize @drewW = y_drewW
  generalize @eqNilW = y_eqNilW
  generalize @eqP = y_eqP
  generalize @gW = y_gW
  generalize @idxW = y_idxW
  generalize @joinW2 = y_joinW2
  generalize @lenW = y_lenW
  generalize @load1W = y_load1W
  generalize @loopW1 = y_loopW1
  generalize @loopW2 = y_loopW2
  generalize @notW = y_notW
  generalize @pickW = y_pickW
  rfl

/-- law25_CommitClock -/
def P_law25_CommitClock (a0 a1 : Value) (K : KV) : World → Prop := fun w =>
 CP Try.prog Fn.law25_CommitRuns [] (fun x1 w =>
 notW x1 (fun x2 w =>
 condP x2 (fun w => K (Value.bool false) w) (fun w => binIntW .rem a1 (Value.int .u8 3) (fun x3 w =>
 convW .u64 x3 (fun x4 w =>
 binIntW .sub (Value.int .u64 4611686018427387903) x4 (fun x5 w =>
 buildW [(Value.int .i64 0), (Value.int .i64 0), (Value.int .i64 0), (Value.int .i64 0), (Value.int .u64 0)] [(0, 1, (Value.int .i64 64)), (1, 1, (Value.int .i64 8)), (2, 1, (Value.int .i64 2)), (3, 1, (Value.int .i64 1)), (4, 1, x5)] (fun x6 w =>
 CP Try.prog Fn.mem_New [x6] (fun x7 w =>
 eqNilW .eql x7 (Value.pointer none) (fun x8 w =>
 condP x8 (fun w => K (Value.bool false) w) (fun w => loopW2 (Value.slice none 0 0) (Value.int .i64 0) (fun J1 x9 x10 w =>
 lenW a0 (fun x11 w =>
 binIntW .lss x10 x11 (fun x12 w =>
 gW x12 true (fun K w => K x10 w) (fun x13 w =>
 gW x12 true (fun K w => binIntW .lss x13 (Value.int .i64 9) K w) (fun x14 w =>
 pickW x12 x14 (Value.bool false) (fun x15 w =>
 condP x15 (fun w => drewW (fun w => idxW 2 a0 x10 (fun x16 w =>
 addW 0 x16 (fun x17 w =>
 load1W x17 (fun x18 w =>
 idxW 2 a0 x10 (fun x19 w =>
 addW 1 x19 (fun x20 w =>
 load1W x20 (fun x21 w =>
 binIntW .rem x21 (Value.int .u64 9) (fun x22 w =>
 binIntW .add x22 (Value.int .u64 1) (fun x23 w =>
 CP Try.prog Fn.book_Within [x18, (Value.int .i64 1), (Value.int .i64 63)] (fun x24 w =>
 andP (fun w => andP (fun w => load1W x20 (fun v w => eqP v x21 w) w) (fun w => andP (fun w => trueP w) (fun w => trueP w) w) w) (fun w =>
 CP Try.prog Fn.ref7_Put [x9, x24, x23] (fun x25 w =>
 andP (fun w => andP (fun w => trueP w) (fun w => trueP w) w) (fun w =>
 binIntW .add x10 (Value.int .i64 1) (fun x26 w =>
 J1 x25 x26 w) w) w) w) w) w) w) w) w) w) w) w) w) w) w) (fun w => CP Try.prog Fn.mem_Mem_Locks [x7] (fun x27 w =>
 CP Try.prog Fn.mem_Mem_Now [x7] (fun x28 w =>
 CP Try.prog Fn.commit_New [(Value.int .i64 0), (Value.int .i64 1), x28, (Value.slice none 0 0), x9, (Value.int .i64 8), (Value.int .i64 2)] (fun x29 w =>
 eqNilW .eql x29 (Value.pointer none) (fun x30 w =>
 gW x30 false (fun K w => K x29 w) (fun x31 w =>
 gW x30 false (fun K w => K x7 w) (fun x32 w =>
 gW x30 false (fun K w => CP Try.prog Fn.law25_alone [x31, x32] K w) (fun x33 w =>
 gW x30 false (fun K w => notW x33 K w) (fun x34 w =>
 pickW x30 (Value.bool true) x34 (fun x35 w =>
 condP x35 (fun w => K (Value.bool false) w) (fun w => binIntW .rem a1 (Value.int .u8 3) (fun x36 w =>
 binIntW .gtr x36 (Value.int .u8 0) (fun x37 w =>
 condP x37 (fun w => CP Try.prog Fn.commit_Commit_End [x29] (fun x38 w =>
 binIntW .eql x38 (Value.int .i64 2) (fun x39 w =>
 gW x39 true (fun K w => K x7 w) (fun x40 w =>
 gW x39 true (fun K w => CP Try.prog Fn.mem_Mem_Now [x40] K w) (fun x41 w =>
 gW x39 true (fun K w => K a1 w) (fun x42 w =>
 gW x39 true (fun K w => binIntW .rem x42 (Value.int .u8 3) K w) (fun x43 w =>
 gW x39 true (fun K w => convW .u64 x43 K w) (fun x44 w =>
 gW x39 true (fun K w => binIntW .sub (Value.int .u64 4611686018427387904) x44 K w) (fun x45 w =>
 gW x39 true (fun K w => binIntW .eql x41 x45 K w) (fun x46 w =>
 pickW x39 x46 (Value.bool false) (fun x47 w =>
 K x47 w) w) w) w) w) w) w) w) w) w) w) (fun w => CP Try.prog Fn.mem_Mem_Words [x7] (fun x48 w =>
 loopW1 (Value.int .i64 0) (fun J2 x49 w =>
 lenW x48 (fun x50 w =>
 binIntW .lss x49 x50 (fun x51 w =>
 condP x51 (fun w => idxW 1 x48 x49 (fun x52 w =>
 load1W x52 (fun x53 w =>
 binIntW .neq x53 (Value.int .u64 0) (fun x54 w =>
 condP x54 (fun w => K (Value.bool false) w) (fun w => binIntW .add x49 (Value.int .i64 1) (fun x55 w =>
 J2 x55 w) w) w) w) w) w) (fun w => CP Try.prog Fn.commit_Commit_End [x29] (fun x56 w =>
 binIntW .eql x56 (Value.int .i64 4) (fun x57 w =>
 gW x57 true (fun K w => K x29 w) (fun x58 w =>
 gW x57 true (fun K w => CP Try.prog Fn.commit_Commit_Err [x58] K w) (fun x59 w =>
 gW x57 true (fun K w => binIntW .eql x59 (Value.int .i64 7) K w) (fun x60 w =>
 pickW x57 x60 (Value.bool false) (fun x61 w =>
 gW x61 true (fun K w => K x29 w) (fun x62 w =>
 gW x61 true (fun K w => CP Try.prog Fn.commit_Commit_Stamp [x62] K w) (fun x63 w =>
 gW x61 true (fun K w => binIntW .eql x63 (Value.int .u64 0) K w) (fun x64 w =>
 pickW x61 x64 (Value.bool false) (fun x65 w =>
 gW x65 true (fun K w => K x7 w) (fun x66 w =>
 gW x65 true (fun K w => CP Try.prog Fn.mem_Mem_Locks [x66] K w) (fun x67 w =>
 gW x65 true (fun K w => K x27 w) (fun x68 w =>
 gW x65 true (fun K w => CP Try.prog Fn.book_Same_api_Lock [x67, x68] K w) (fun x69 w =>
 pickW x65 x69 (Value.bool false) (fun x70 w =>
 gW x70 true (fun K w => K x7 w) (fun x71 w =>
 gW x70 true (fun K w => CP Try.prog Fn.mem_Mem_Now [x71] K w) (fun x72 w =>
 gW x70 true (fun K w => binIntW .eql x72 (Value.int .u64 4611686018427387903) K w) (fun x73 w =>
 pickW x70 x73 (Value.bool false) (fun x74 w =>
 K x74 w) w) w) w) w) w) w) w) w) w) w) w) w) w) w) w) w) w) w) w) w) w) w) w) w) w) w) w) w) w) w) w) w) w) w) w) w) w) w) w) w) w) w) w) w) w) w) w) w) w) w) w) w) w) w

theorem Q_law25_CommitClock (a0 a1 : Value) (K : KV) : S_law25_CommitClock a0 a1 K = P_law25_CommitClock a0 a1 K := by
  unfold S_law25_CommitClock P_law25_CommitClock
  generalize @CP = y_CP
  generalize @addW = y_addW
  generalize @andP = y_andP
  generalize @binIntW = y_binIntW
  generalize @buildW = y_buildW
  generalize @condP = y_condP
  generalize @convW = y_convW
  generalize @drewW = y_drewW
  generalize @eqNilW = y_eqNilW
  generalize @eqP = y_eqP
  generalize @gW = y_gW
  generalize @idxW = y_idxW
  generalize @lenW = y_lenW
  generalize @load1W = y_load1W
  generalize @loopW1 = y_loopW1
  generalize @loopW2 = y_loopW2
  generalize @notW = y_notW
  generalize @pickW = y_pickW
  rfl

/-- law18_TableRuns -/
def P_law18_TableRuns (K : KV) : World → Prop := fun w =>
 CP Try.prog Fn.arena_Fresh [(Value.int .i64 100)] (fun x1 w =>
 CP Try.prog Fn.view_Whole [x1, (Value.int .i64 96)] (fun x2 w =>
 eqNilW .eql x2 (Value.pointer none) (fun x3 w =>
 condP x3 (fun w => K (Value.bool false) w) (fun w => CP Try.prog Fn.table_Put [x2, (Value.int .i64 6), (Value.int .u64 9), (Value.int .u64 1)] (fun x4 w =>
 extractW 0 x4 (fun x5 w =>
 extractW 1 x4 (fun x6 w =>
 CP Try.prog Fn.table_Put [x2, (Value.int .i64 6), (Value.int .u64 9), (Value.int .u64 2)] (fun x7 w =>
 extractW 0 x7 (fun x8 w =>
 extractW 1 x7 (fun x9 w =>
 CP Try.prog Fn.table_Get [x2, (Value.int .i64 6), (Value.int .u64 9)] (fun x10 w =>
 extractW 0 x10 (fun x11 w =>
 extractW 1 x10 (fun x12 w =>
 extractW 2 x10 (fun x13 w =>
 CP Try.prog Fn.table_All [x2, (Value.int .i64 6)] (fun x14 w =>
 extractW 0 x14 (fun x15 w =>
 extractW 1 x14 (fun x16 w =>
 CP Try.prog Fn.table_Get [x2, (Value.int .i64 5), (Value.int .u64 9)] (fun x17 w =>
 extractW 0 x17 (fun x18 w =>
 extractW 1 x17 (fun x19 w =>
 extractW 2 x17 (fun x20 w =>
 gW x5 true (fun K w => K x6 w) (fun x21 w =>
 gW x5 true (fun K w => binIntW .eql x21 (Value.int .i64 0) K w) (fun x22 w =>
 pickW x5 x22 (Value.bool false) (fun x23 w =>
 gW x23 true (fun K w => K x8 w) (fun x24 w =>
 gW x23 true (fun K w => notW x24 K w) (fun x25 w =>
 pickW x23 x25 (Value.bool false) (fun x26 w =>
 gW x26 true (fun K w => K x9 w) (fun x27 w =>
 gW x26 true (fun K w => binIntW .eql x27 (Value.int .i64 0) K w) (fun x28 w =>
 pickW x26 x28 (Value.bool false) (fun x29 w =>
 gW x29 true (fun K w => K x11 w) (fun x30 w =>
 gW x29 true (fun K w => binIntW .eql x30 (Value.int .u64 2) K w) (fun x31 w =>
 pickW x29 x31 (Value.bool false) (fun x32 w =>
 gW x32 true (fun K w => K x12 w) (fun x33 w =>
 pickW x32 x33 (Value.bool false) (fun x34 w =>
 gW x34 true (fun K w => K x13 w) (fun x35 w =>
 gW x34 true (fun K w => binIntW .eql x35 (Value.int .i64 0) K w) (fun x36 w =>
 pickW x34 x36 (Value.bool false) (fun x37 w =>
 gW x37 true (fun K w => K x16 w) (fun x38 w =>
 gW x37 true (fun K w => binIntW .eql x38 (Value.int .i64 0) K w) (fun x39 w =>
 pickW x37 x39 (Value.bool false) (fun x40 w =>
 gW x40 true (fun K w => K x15 w) (fun x41 w =>
 gW x40 true (fun K w => lenW x41 K w) (fun x42 w =>
 gW x40 true (fun K w => binIntW .eql x42 (Value.int .i64 1) K w) (fun x43 w =>
 pickW x40 x43 (Value.bool false) (fun x44 w =>
 gW x44 true (fun K w => K x15 w) (fun x45 w =>
 gW x44 true (fun K w => idxW 2 x45 (Value.int .i64 0) K w) (fun x46 w =>
 gW x44 true (fun K w => loadNW 2 x46 K w) (fun x47 w =>
 gW x44 true (fun K w => buildW [(Value.int .u64 0), (Value.int .u64 0)] [(0, 1, (Value.int .u64 9)), (1, 1, (Value.int .u64 2))] K w) (fun x48 w =>
 gW x44 true (fun K w => eqAggW [.i .u64, .i .u64] .eql x47 x48 K w) (fun x49 w =>
 pickW x44 x49 (Value.bool false) (fun x50 w =>
 gW x50 true (fun K w => K x20 w) (fun x51 w =>
 gW x50 true (fun K w => binIntW .eql x51 (Value.int .i64 2) K w) (fun x52 w =>
 pickW x50 x52 (Value.bool false) (fun x53 w =>
 K x53 w) w) w) w) w) w) w) w) w) w) w) w) w) w) w) w) w) w) w) w) w) w) w) w) w) w) w) w) w) w) w) w) w) w) w) w) w) w) w) w) w) w) w) w) w) w) w) w) w) w) w) w) w) w) w

theorem Q_law18_TableRuns (K : KV) : S_law18_TableRuns K = P_law18_TableRuns K := by
  unfold S_law18_TableRuns P_law18_TableRuns
  generalize @CP = y_CP
  generalize @binIntW = y_binIntW
  generalize @buildW = y_buildW
  generalize @condP = y_condP
  generalize @eqAggW = y_eqAggW
  generalize @eqNilW = y_eqNilW
  generalize @extractW = y_extractW
  generalize @gW = y_gW
  generalize @idxW = y_idxW
  generalize @lenW = y_lenW
  generalize @loadNW = y_loadNW
  generalize @notW = y_notW
  generalize @pickW = y_pickW
  rfl

/-- mem_New -/
def P_mem_New (a0 : Value) (K : KV) : World → Prop := fun w =>
 boxW a0 (fun x1 w =>
 loadNW 5 x1 (fun x2 w =>
 CP Try.prog Fn.mem_Held [x2] (fun x3 w =>
 storeW 5 x1 x3 (fun _ w =>
 drewW (fun w => loadNW 5 x1 (fun x5 w =>
 addW 0 x1 (fun x6 w =>
 load1W x6 (fun x7 w =>
 addW 1 x1 (fun x8 w =>
 load1W x8 (fun x9 w =>
 addW 2 x1 (fun x10 w =>
 load1W x10 (fun x11 w =>
 addW 4 x1 (fun x12 w =>
 load1W x12 (fun x13 w =>
 addW 3 x1 (fun x14 w =>
 load1W x14 (fun x15 w =>
 CP Try.prog Fn.heap_New [x7] (fun x16 w =>
 andP (fun w => andP (fun w => load1W x14 (fun v w => eqP v x15 w) w) (fun w => andP (fun w => load1W x12 (fun v w => eqP v x13 w) w) (fun w => andP (fun w => load1W x10 (fun v w => eqP v x11 w) w) (fun w => andP (fun w => load1W x8 (fun v w => eqP v x9 w) w) (fun w => andP (fun w => trueP w) (fun w => andP (fun w => loadNW 5 x1 (fun v w => eqP v x5 w) w) (fun w => trueP w) w) w) w) w) w) w) (fun w =>
 CP Try.prog Fn.stripe_New [x9, x11] (fun x17 w =>
 andP (fun w => andP (fun w => load1W x14 (fun v w => eqP v x15 w) w) (fun w => andP (fun w => load1W x12 (fun v w => eqP v x13 w) w) (fun w => andP (fun w => trueP w) (fun w => andP (fun w => trueP w) (fun w => andP (fun w => loadNW 5 x1 (fun v w => eqP v x5 w) w) (fun w => trueP w) w) w) w) w) w) (fun w =>
 CP Try.prog Fn.clock_New [x13] (fun x18 w =>
 andP (fun w => andP (fun w => load1W x14 (fun v w => eqP v x15 w) w) (fun w => andP (fun w => trueP w) (fun w => andP (fun w => loadNW 5 x1 (fun v w => eqP v x5 w) w) (fun w => trueP w) w) w) w) (fun w =>
 CP Try.prog Fn.epoch_New [x15] (fun x19 w =>
 andP (fun w => andP (fun w => trueP w) (fun w => andP (fun w => loadNW 5 x1 (fun v w => eqP v x5 w) w) (fun w => trueP w) w) w) (fun w =>
 buildW [(Value.int .i64 0), (Value.int .i64 0), (Value.int .i64 0), (Value.int .i64 0), (Value.int .u64 0), (Value.pointer none), (Value.pointer none), (Value.pointer none), (Value.pointer none), (Value.int .i64 0)] [(0, 5, x5), (5, 1, x16), (6, 1, x17), (7, 1, x18), (8, 1, x19)] (fun x20 w =>
 boxW x20 (fun x21 w =>
 andP (fun w => andP (fun w => trueP w) (fun w => trueP w) w) (fun w =>
 K x21 w) w) w) w) w) w) w) w) w) w) w) w) w) w) w) w) w) w) w) w) w) w) w) w) w) w) w) w

theorem Q_mem_New (a0 : Value) (K : KV) : S_mem_New a0 K = P_mem_New a0 K := by
  unfold S_mem_New P_mem_New
  generalize @CP = y_CP
  generalize @addW = y_addW
  generalize @andP = y_andP
  generalize @boxW = y_boxW
  generalize @buildW = y_buildW
  generalize @drewW = y_drewW
  generalize @eqP = y_eqP
  generalize @load1W = y_load1W
  generalize @loadNW = y_loadNW
  generalize @storeW = y_storeW
  rfl

/-- commit_New -/
def P_commit_New (a0 a1 a2 a3 a4 a5 a6 : Value) (K : KV) : World → Prop := fun w =>
 CP Try.prog Fn.patience_New [a0, a1] (fun x1 w =>
 CP Try.prog Fn.slices_Clone_api_Seen_api_Seen [a3] (fun x2 w =>
 CP Try.prog Fn.slices_Clone_api_Cell_api_Cell [a4] (fun x3 w =>
 CP Try.prog Fn.writes_Stripes [a4, a5, a6] (fun x4 w =>
 buildW [(Value.int .i64 0), (Value.int .i64 0), (Value.int .i64 0), (Value.int .i64 0), (Value.int .i64 0), (Value.int .i64 0), (Value.int .u64 0), (Value.slice none 0 0), (Value.slice none 0 0), (Value.slice none 0 0), (Value.slice none 0 0), (Value.int .i64 0), (Value.int .i64 0), (Value.int .u64 0), (Value.bool false), (Value.int .i64 0), (Value.int .u64 0), (Value.bool false), (Value.int .i64 0), (Value.int .i64 0), (Value.int .i64 0)] [(0, 5, x1), (5, 1, a0), (6, 1, a2), (7, 1, x2), (8, 1, x3), (9, 1, x4)] (fun x5 w =>
 boxW x5 (fun x6 w =>
 CP Try.prog Fn.commit_Commit_more [x6] (fun x7 w =>
 K x6 w) w) w) w) w) w) w) w

theorem Q_commit_New (a0 a1 a2 a3 a4 a5 a6 : Value) (K : KV) : S_commit_New a0 a1 a2 a3 a4 a5 a6 K = P_commit_New a0 a1 a2 a3 a4 a5 a6 K := by
  unfold S_commit_New P_commit_New
  generalize @CP = y_CP
  generalize @boxW = y_boxW
  generalize @buildW = y_buildW
  rfl

/-- commit_Commit_Next -/
def P_commit_Commit_Next (a0 : Value) (K : KV) : World → Prop := fun w =>
 newW #[(Value.int .i64 0), (Value.int .i64 0), (Value.int .u64 0), (Value.int .u64 0), (Value.int .u64 0), (Value.bool false), (Value.int .i64 0), (Value.int .u64 0), (Value.bool false), (Value.int .i64 0)] (fun x1 w =>
 nilW a0 (fun x2 w =>
 addW 0 x2 (fun x3 w =>
 CP Try.prog Fn.patience_Patience_End [x3] (fun x4 w =>
 binIntW .neq x4 (Value.int .i64 0) (fun x5 w =>
 condP x5 (fun w => buildW [(Value.int .i64 0), (Value.int .i64 0), (Value.int .u64 0), (Value.int .u64 0), (Value.int .u64 0), (Value.bool false), (Value.int .i64 0), (Value.int .u64 0), (Value.bool false), (Value.int .i64 0)] [] (fun x6 w =>
 storeW 10 x1 x6 (fun _ w =>
 loadNW 10 x1 (fun x8 w =>
 K (Value.tuple #[x8, (Value.bool false)]) w) w) w) w) (fun w => nilW a0 (fun x9 w =>
 addW 11 x9 (fun x10 w =>
 load1W x10 (fun x11 w =>
 binIntW .eql x11 (Value.int .i64 0) (fun x12 w =>
 condP x12 (fun w => drewW (fun w => nilW a0 (fun x13 w =>
 addW 9 x13 (fun x14 w =>
 load1W x14 (fun x15 w =>
 nilW a0 (fun x16 w =>
 addW 10 x16 (fun x17 w =>
 load1W x17 (fun x18 w =>
 lenW x18 (fun x19 w =>
 idxW 1 x15 x19 (fun x20 w =>
 load1W x20 (fun x21 w =>
 buildW [(Value.int .i64 0), (Value.int .i64 0), (Value.int .u64 0), (Value.int .u64 0), (Value.int .u64 0), (Value.bool false), (Value.int .i64 0), (Value.int .u64 0), (Value.bool false), (Value.int .i64 0)] [(0, 1, (Value.int .i64 3)), (1, 1, x21)] (fun x22 w =>
 storeW 10 x1 x22 (fun _ w =>
 andP (fun w => andP (fun w => trueP w) (fun w => andP (fun w => trueP w) (fun w => andP (fun w => trueP w) (fun w => trueP w) w) w) w) (fun w =>
 loadNW 10 x1 (fun x24 w =>
 K (Value.tuple #[x24, (Value.bool true)]) w) w) w) w) w) w) w) w) w) w) w) w) w) w) w) (fun w => binIntW .eql x11 (Value.int .i64 1) (fun x25 w =>
 condP x25 (fun w => drewW (fun w => nilW a0 (fun x26 w =>
 addW 13 x26 (fun x27 w =>
 addW 0 x27 (fun x28 w =>
 load1W x28 (fun x29 w =>
 nilW a0 (fun x30 w =>
 addW 5 x30 (fun x31 w =>
 load1W x31 (fun x32 w =>
 buildW [(Value.int .u64 0), (Value.bool false), (Value.int .i64 0)] [(0, 1, x29), (1, 1, (Value.bool true)), (2, 1, x32)] (fun x33 w =>
 newW #[(Value.int .u64 0), (Value.bool false), (Value.int .i64 0)] (fun x34 w =>
 andP (fun w => andP (fun w => load1W x31 (fun v w => eqP v x32 w) w) (fun w => andP (fun w => load1W x28 (fun v w => eqP v x29 w) w) (fun w => trueP w) w) w) (fun w =>
 storeW 3 x34 x33 (fun _ w =>
 andP (fun w => andP (fun w => trueP w) (fun w => andP (fun w => trueP w) (fun w => trueP w) w) w) (fun w =>
 drewW (fun w => nilW a0 (fun x36 w =>
 addW 9 x36 (fun x37 w =>
 load1W x37 (fun x38 w =>
 nilW a0 (fun x39 w =>
 addW 10 x39 (fun x40 w =>
 load1W x40 (fun x41 w =>
 lenW x41 (fun x42 w =>
 idxW 1 x38 x42 (fun x43 w =>
 load1W x43 (fun x44 w =>
 nilW a0 (fun x45 w =>
 addW 13 x45 (fun x46 w =>
 loadNW 3 x46 (fun x47 w =>
 loadNW 3 x34 (fun x48 w =>
 buildW [(Value.int .i64 0), (Value.int .i64 0), (Value.int .u64 0), (Value.int .u64 0), (Value.int .u64 0), (Value.bool false), (Value.int .i64 0), (Value.int .u64 0), (Value.bool false), (Value.int .i64 0)] [(0, 1, (Value.int .i64 4)), (1, 1, x44), (4, 3, x47), (7, 3, x48)] (fun x49 w =>
 storeW 10 x1 x49 (fun _ w =>
 andP (fun w => andP (fun w => trueP w) (fun w => andP (fun w => trueP w) (fun w => andP (fun w => trueP w) (fun w => andP (fun w => trueP w) (fun w => andP (fun w => trueP w) (fun w => trueP w) w) w) w) w) w) (fun w =>
 loadNW 10 x1 (fun x51 w =>
 K (Value.tuple #[x51, (Value.bool true)]) w) w) w) w) w) w) w) w) w) w) w) w) w) w) w) w) w) w) w) w) w) w) w) w) w) w) w) w) w) w) w) w) (fun w => binIntW .eql x11 (Value.int .i64 2) (fun x52 w =>
 condP x52 (fun w => buildW [(Value.int .i64 0), (Value.int .i64 0), (Value.int .u64 0), (Value.int .u64 0), (Value.int .u64 0), (Value.bool false), (Value.int .i64 0), (Value.int .u64 0), (Value.bool false), (Value.int .i64 0)] [(0, 1, (Value.int .i64 6))] (fun x53 w =>
 storeW 10 x1 x53 (fun _ w =>
 loadNW 10 x1 (fun x55 w =>
 K (Value.tuple #[x55, (Value.bool true)]) w) w) w) w) (fun w => binIntW .eql x11 (Value.int .i64 3) (fun x56 w =>
 condP x56 (fun w => drewW (fun w => nilW a0 (fun x57 w =>
 addW 16 x57 (fun x58 w =>
 load1W x58 (fun x59 w =>
 nilW a0 (fun x60 w =>
 addW 16 x60 (fun x61 w =>
 load1W x61 (fun x62 w =>
 binIntW .add x62 (Value.int .u64 1) (fun x63 w =>
 buildW [(Value.int .i64 0), (Value.int .i64 0), (Value.int .u64 0), (Value.int .u64 0), (Value.int .u64 0), (Value.bool false), (Value.int .i64 0), (Value.int .u64 0), (Value.bool false), (Value.int .i64 0)] [(0, 1, (Value.int .i64 7)), (2, 1, x59), (3, 1, x63)] (fun x64 w =>
 storeW 10 x1 x64 (fun _ w =>
 andP (fun w => andP (fun w => trueP w) (fun w => andP (fun w => trueP w) (fun w => trueP w) w) w) (fun w =>
 loadNW 10 x1 (fun x66 w =>
 K (Value.tuple #[x66, (Value.bool true)]) w) w) w) w) w) w) w) w) w) w) w) w) w) (fun w => binIntW .eql x11 (Value.int .i64 4) (fun x67 w =>
 condP x67 (fun w => drewW (fun w => nilW a0 (fun x68 w =>
 addW 7 x68 (fun x69 w =>
 load1W x69 (fun x70 w =>
 nilW a0 (fun x71 w =>
 addW 12 x71 (fun x72 w =>
 load1W x72 (fun x73 w =>
 idxW 2 x70 x73 (fun x74 w =>
 addW 0 x74 (fun x75 w =>
 load1W x75 (fun x76 w =>
 buildW [(Value.int .i64 0), (Value.int .i64 0), (Value.int .u64 0), (Value.int .u64 0), (Value.int .u64 0), (Value.bool false), (Value.int .i64 0), (Value.int .u64 0), (Value.bool false), (Value.int .i64 0)] [(0, 1, (Value.int .i64 3)), (1, 1, x76)] (fun x77 w =>
 storeW 10 x1 x77 (fun _ w =>
 andP (fun w => andP (fun w => trueP w) (fun w => andP (fun w => trueP w) (fun w => andP (fun w => trueP w) (fun w => trueP w) w) w) w) (fun w =>
 loadNW 10 x1 (fun x79 w =>
 K (Value.tuple #[x79, (Value.bool true)]) w) w) w) w) w) w) w) w) w) w) w) w) w) w) w) (fun w => binIntW .eql x11 (Value.int .i64 5) (fun x80 w =>
 condP x80 (fun w => drewW (fun w => nilW a0 (fun x81 w =>
 addW 8 x81 (fun x82 w =>
 load1W x82 (fun x83 w =>
 nilW a0 (fun x84 w =>
 addW 12 x84 (fun x85 w =>
 load1W x85 (fun x86 w =>
 idxW 2 x83 x86 (fun x87 w =>
 addW 0 x87 (fun x88 w =>
 load1W x88 (fun x89 w =>
 nilW a0 (fun x90 w =>
 addW 8 x90 (fun x91 w =>
 load1W x91 (fun x92 w =>
 nilW a0 (fun x93 w =>
 addW 12 x93 (fun x94 w =>
 load1W x94 (fun x95 w =>
 idxW 2 x92 x95 (fun x96 w =>
 addW 1 x96 (fun x97 w =>
 load1W x97 (fun x98 w =>
 buildW [(Value.int .i64 0), (Value.int .i64 0), (Value.int .u64 0), (Value.int .u64 0), (Value.int .u64 0), (Value.bool false), (Value.int .i64 0), (Value.int .u64 0), (Value.bool false), (Value.int .i64 0)] [(0, 1, (Value.int .i64 2)), (1, 1, x89), (3, 1, x98)] (fun x99 w =>
 storeW 10 x1 x99 (fun _ w =>
 andP (fun w => andP (fun w => trueP w) (fun w => andP (fun w => trueP w) (fun w => andP (fun w => trueP w) (fun w => andP (fun w => trueP w) (fun w => andP (fun w => trueP w) (fun w => andP (fun w => trueP w) (fun w => trueP w) w) w) w) w) w) w) (fun w =>
 loadNW 10 x1 (fun x101 w =>
 K (Value.tuple #[x101, (Value.bool true)]) w) w) w) w) w) w) w) w) w) w) w) w) w) w) w) w) w) w) w) w) w) w) w) w) (fun w => binIntW .eql x11 (Value.int .i64 6) (fun x102 w =>
 condP x102 (fun w => drewW (fun w => nilW a0 (fun x103 w =>
 addW 9 x103 (fun x104 w =>
 load1W x104 (fun x105 w =>
 nilW a0 (fun x106 w =>
 addW 12 x106 (fun x107 w =>
 load1W x107 (fun x108 w =>
 idxW 1 x105 x108 (fun x109 w =>
 load1W x109 (fun x110 w =>
 nilW a0 (fun x111 w =>
 addW 16 x111 (fun x112 w =>
 load1W x112 (fun x113 w =>
 binIntW .add x113 (Value.int .u64 1) (fun x114 w =>
 buildW [(Value.int .u64 0), (Value.bool false), (Value.int .i64 0)] [(0, 1, x114)] (fun x115 w =>
 buildW [(Value.int .i64 0), (Value.int .i64 0), (Value.int .u64 0), (Value.int .u64 0), (Value.int .u64 0), (Value.bool false), (Value.int .i64 0), (Value.int .u64 0), (Value.bool false), (Value.int .i64 0)] [(0, 1, (Value.int .i64 5)), (1, 1, x110), (7, 3, x115)] (fun x116 w =>
 storeW 10 x1 x116 (fun _ w =>
 andP (fun w => andP (fun w => trueP w) (fun w => andP (fun w => trueP w) (fun w => andP (fun w => trueP w) (fun w => andP (fun w => trueP w) (fun w => trueP w) w) w) w) w) (fun w =>
 loadNW 10 x1 (fun x118 w =>
 K (Value.tuple #[x118, (Value.bool true)]) w) w) w) w) w) w) w) w) w) w) w) w) w) w) w) w) w) w) w) (fun w => drewW (fun w => nilW a0 (fun x119 w =>
 addW 9 x119 (fun x120 w =>
 load1W x120 (fun x121 w =>
 nilW a0 (fun x122 w =>
 addW 12 x122 (fun x123 w =>
 load1W x123 (fun x124 w =>
 idxW 1 x121 x124 (fun x125 w =>
 load1W x125 (fun x126 w =>
 nilW a0 (fun x127 w =>
 addW 10 x127 (fun x128 w =>
 load1W x128 (fun x129 w =>
 nilW a0 (fun x130 w =>
 addW 12 x130 (fun x131 w =>
 load1W x131 (fun x132 w =>
 idxW 3 x129 x132 (fun x133 w =>
 loadNW 3 x133 (fun x134 w =>
 buildW [(Value.int .i64 0), (Value.int .i64 0), (Value.int .u64 0), (Value.int .u64 0), (Value.int .u64 0), (Value.bool false), (Value.int .i64 0), (Value.int .u64 0), (Value.bool false), (Value.int .i64 0)] [(0, 1, (Value.int .i64 5)), (1, 1, x126), (7, 3, x134)] (fun x135 w =>
 storeW 10 x1 x135 (fun _ w =>
 andP (fun w => andP (fun w => trueP w) (fun w => andP (fun w => trueP w) (fun w => andP (fun w => trueP w) (fun w => andP (fun w => trueP w) (fun w => andP (fun w => trueP w) (fun w => andP (fun w => trueP w) (fun w => trueP w) w) w) w) w) w) w) (fun w =>
 loadNW 10 x1 (fun x137 w =>
 K (Value.tuple #[x137, (Value.bool true)]) w) w) w) w) w) w) w) w) w) w) w) w) w) w) w) w) w) w) w) w) w) w) w) w) w) w) w) w) w) w) w) w) w) w) w) w) w) w) w) w) w) w) w) w) w

theorem Q_commit_Commit_Next (a0 : Value) (K : KV) : S_commit_Commit_Next a0 K = P_commit_Commit_Next a0 K := by
  unfold S_commit_Commit_Next P_commit_Commit_Next
  generalize @CP = y_CP
  generalize @addW = y_addW
  generalize @andP = y_andP
  generalize @binIntW = y_binIntW
  generalize @buildW = y_buildW
  generalize @condP = y_condP
  generalize @drewW = y_drewW
  generalize @eqP = y_eqP
  generalize @idxW = y_idxW
  generalize @lenW = y_lenW
  generalize @load1W = y_load1W
  generalize @loadNW = y_loadNW
  generalize @newW = y_newW
  generalize @nilW = y_nilW
  generalize @storeW = y_storeW
  rfl

/-- commit_Commit_Writing -/
def P_commit_Commit_Writing (a0 : Value) (K : KV) : World → Prop := fun w =>
 nilW a0 (fun x1 w =>
 addW 17 x1 (fun x2 w =>
 load1W x2 (fun x3 w =>
 gW x3 true (fun K w => K a0 w) (fun x4 w =>
 gW x3 true (fun K w => CP Try.prog Fn.commit_Commit_End [x4] K w) (fun x5 w =>
 gW x3 true (fun K w => binIntW .eql x5 (Value.int .i64 0) K w) (fun x6 w =>
 pickW x3 x6 (Value.bool false) (fun x7 w =>
 K x7 w) w) w) w) w) w) w) w

theorem Q_commit_Commit_Writing (a0 : Value) (K : KV) : S_commit_Commit_Writing a0 K = P_commit_Commit_Writing a0 K := by
  unfold S_commit_Commit_Writing P_commit_Commit_Writing
  generalize @CP = y_CP
  generalize @addW = y_addW
  generalize @binIntW = y_binIntW
  generalize @gW = y_gW
  generalize @load1W = y_load1W
  generalize @nilW = y_nilW
  generalize @pickW = y_pickW
  rfl

/-- commit_Commit_Tell -/
def P_commit_Commit_Tell (a0 a1 : Value) (K : KV) : World → Prop := fun w =>
 boxW a1 (fun x1 w =>
 drewW (fun w => nilW a0 (fun x2 w =>
 addW 0 x2 (fun x3 w =>
 loadNW 6 x1 (fun x4 w =>
 CP Try.prog Fn.patience_Patience_Stopped [x3, x4] (fun x5 w =>
 andP (fun w => andP (fun w => trueP w) (fun w => trueP w) w) (fun w =>
 condP x5 (fun w => K (Value.tuple #[]) w) (fun w => nilW a0 (fun x6 w =>
 addW 11 x6 (fun x7 w =>
 load1W x7 (fun x8 w =>
 binIntW .eql x8 (Value.int .i64 0) (fun x9 w =>
 joinW1 (fun x10 w =>
 joinW0 (fun  w =>
 K (Value.tuple #[]) w) (fun j2 w =>
 condP x10 (fun w => loadNW 6 x1 (fun x11 w =>
 CP Try.prog Fn.commit_Commit_take [a0, x11] (fun x12 w =>
 j2  w) w) w) (fun w => binIntW .eql x8 (Value.int .i64 2) (fun x13 w =>
 joinW1 (fun x14 w =>
 joinW0 (fun  w =>
 j2  w) (fun j4 w =>
 condP x14 (fun w => loadNW 6 x1 (fun x15 w =>
 CP Try.prog Fn.commit_Commit_raise [a0, x15] (fun x16 w =>
 j4  w) w) w) (fun w => binIntW .eql x8 (Value.int .i64 4) (fun x17 w =>
 joinW0 (fun  w =>
 j4  w) (fun j5 w =>
 condP x17 (fun w => addW 1 x1 (fun x18 w =>
 loadNW 3 x18 (fun x19 w =>
 CP Try.prog Fn.commit_Commit_proved [a0, x19] (fun x20 w =>
 j5  w) w) w) w) (fun w => binIntW .eql x8 (Value.int .i64 5) (fun x21 w =>
 joinW0 (fun  w =>
 j5  w) (fun j6 w =>
 condP x21 (fun w => nilW a0 (fun x22 w =>
 addW 12 x22 (fun x23 w =>
 load1W x23 (fun x24 w =>
 binIntW .add x24 (Value.int .i64 1) (fun x25 w =>
 nilW a0 (fun x26 w =>
 addW 12 x26 (fun x27 w =>
 storeW 1 x27 x25 (fun _ w =>
 CP Try.prog Fn.commit_Commit_write [a0] (fun x29 w =>
 j6  w) w) w) w) w) w) w) w) w) (fun w => binIntW .eql x8 (Value.int .i64 6) (fun x30 w =>
 joinW0 (fun  w =>
 j6  w) (fun j7 w =>
 condP x30 (fun w => nilW a0 (fun x31 w =>
 addW 12 x31 (fun x32 w =>
 load1W x32 (fun x33 w =>
 binIntW .add x33 (Value.int .i64 1) (fun x34 w =>
 nilW a0 (fun x35 w =>
 addW 12 x35 (fun x36 w =>
 storeW 1 x36 x34 (fun _ w =>
 CP Try.prog Fn.commit_Commit_give [a0] (fun x38 w =>
 j7  w) w) w) w) w) w) w) w) w) (fun w => binIntW .eql x8 (Value.int .i64 7) (fun x39 w =>
 joinW0 (fun  w =>
 j7  w) (fun j8 w =>
 condP x39 (fun w => nilW a0 (fun x40 w =>
 addW 12 x40 (fun x41 w =>
 load1W x41 (fun x42 w =>
 binIntW .add x42 (Value.int .i64 1) (fun x43 w =>
 nilW a0 (fun x44 w =>
 addW 12 x44 (fun x45 w =>
 storeW 1 x45 x43 (fun _ w =>
 CP Try.prog Fn.commit_Commit_leave [a0] (fun x47 w =>
 j8  w) w) w) w) w) w) w) w) w) (fun w => j8  w) w) w) w) w) w) w) w) w) w) w) w) w) w) w) (fun j3 w =>
 condP x13 (fun w => j3 x13 w) (fun w => binIntW .eql x8 (Value.int .i64 3) (fun x48 w =>
 j3 x48 w) w) w) w) w) w) w) (fun j1 w =>
 condP x9 (fun w => j1 x9 w) (fun w => binIntW .eql x8 (Value.int .i64 1) (fun x49 w =>
 j1 x49 w) w) w) w) w) w) w) w) w) w) w) w) w) w) w) w

theorem Q_commit_Commit_Tell (a0 a1 : Value) (K : KV) : S_commit_Commit_Tell a0 a1 K = P_commit_Commit_Tell a0 a1 K := by
  unfold S_commit_Commit_Tell P_commit_Commit_Tell
  generalize @CP = y_CP
  generalize @addW = y_addW
  generalize @andP = y_andP
  generalize @binIntW = y_binIntW
  generalize @boxW = y_boxW
  generalize @condP = y_condP
  generalize @drewW = y_drewW
  generalize @joinW0 = y_joinW0
  generalize @joinW1 = y_joinW1
  generalize @load1W = y_load1W
  generalize @loadNW = y_loadNW
  generalize @nilW = y_nilW
  generalize @storeW = y_storeW
  rfl

/-- mem_Mem_Do -/
def P_mem_Mem_Do (a0 a1 : Value) (K : KV) : World → Prop := fun w =>
 boxW a1 (fun x1 w =>
 newW #[(Value.int .u64 0), (Value.int .u64 0), (Value.bool false), (Value.int .i64 0), (Value.bool false), (Value.int .i64 0)] (fun x2 w =>
 loadNW 10 x1 (fun x3 w =>
 CP Try.prog Fn.mem_Mem_do [a0, x3] (fun x4 w =>
 newW #[(Value.int .u64 0), (Value.int .u64 0), (Value.bool false), (Value.int .i64 0), (Value.bool false), (Value.int .i64 0)] (fun x5 w =>
 storeW 6 x5 x4 (fun _ w =>
 addW 5 x5 (fun x7 w =>
 load1W x7 (fun x8 w =>
 binIntW .eql x8 (Value.int .i64 0) (fun x9 w =>
 joinW0 (fun  w =>
 loadNW 6 x5 (fun x10 w =>
 storeW 6 x2 x10 (fun _ w =>
 loadNW 6 x2 (fun x12 w =>
 K x12 w) w) w) w) (fun j1 w =>
 condP x9 (fun w => nilW a0 (fun x13 w =>
 addW 9 x13 (fun x14 w =>
 load1W x14 (fun x15 w =>
 binIntW .add x15 (Value.int .i64 1) (fun x16 w =>
 nilW a0 (fun x17 w =>
 addW 9 x17 (fun x18 w =>
 storeW 1 x18 x16 (fun _ w =>
 j1  w) w) w) w) w) w) w) w) (fun w => j1  w) w) w) w) w) w) w) w) w) w) w) w

theorem Q_mem_Mem_Do (a0 a1 : Value) (K : KV) : S_mem_Mem_Do a0 a1 K = P_mem_Mem_Do a0 a1 K := by
  unfold S_mem_Mem_Do P_mem_Mem_Do
  generalize @CP = y_CP
  generalize @addW = y_addW
  generalize @binIntW = y_binIntW
  generalize @boxW = y_boxW
  generalize @condP = y_condP
  generalize @joinW0 = y_joinW0
  generalize @load1W = y_load1W
  generalize @loadNW = y_loadNW
  generalize @newW = y_newW
  generalize @nilW = y_nilW
  generalize @storeW = y_storeW
  rfl

/-- mem_Mem_Locks -/
def P_mem_Mem_Locks (a0 : Value) (K : KV) : World → Prop := fun w =>
 nilW a0 (fun x1 w =>
 addW 6 x1 (fun x2 w =>
 load1W x2 (fun x3 w =>
 CP Try.prog Fn.stripe_Table_All [x3] (fun x4 w =>
 K x4 w) w) w) w) w

theorem Q_mem_Mem_Locks (a0 : Value) (K : KV) : S_mem_Mem_Locks a0 K = P_mem_Mem_Locks a0 K := by
  unfold S_mem_Mem_Locks P_mem_Mem_Locks
  generalize @CP = y_CP
  generalize @addW = y_addW
  generalize @load1W = y_load1W
  generalize @nilW = y_nilW
  rfl

/-- mem_Mem_Words -/
def P_mem_Mem_Words (a0 : Value) (K : KV) : World → Prop := fun w =>
 nilW a0 (fun x1 w =>
 addW 5 x1 (fun x2 w =>
 load1W x2 (fun x3 w =>
 CP Try.prog Fn.heap_Heap_All [x3] (fun x4 w =>
 K x4 w) w) w) w) w

theorem Q_mem_Mem_Words (a0 : Value) (K : KV) : S_mem_Mem_Words a0 K = P_mem_Mem_Words a0 K := by
  unfold S_mem_Mem_Words P_mem_Mem_Words
  generalize @CP = y_CP
  generalize @addW = y_addW
  generalize @load1W = y_load1W
  generalize @nilW = y_nilW
  rfl

/-- commit_Commit_End -/
def P_commit_Commit_End (a0 : Value) (K : KV) : World → Prop := fun w =>
 nilW a0 (fun x1 w =>
 addW 0 x1 (fun x2 w =>
 CP Try.prog Fn.patience_Patience_End [x2] (fun x3 w =>
 K x3 w) w) w) w

theorem Q_commit_Commit_End (a0 : Value) (K : KV) : S_commit_Commit_End a0 K = P_commit_Commit_End a0 K := by
  unfold S_commit_Commit_End P_commit_Commit_End
  generalize @CP = y_CP
  generalize @addW = y_addW
  generalize @nilW = y_nilW
  rfl

/-- commit_Commit_Stamp -/
def P_commit_Commit_Stamp (a0 : Value) (K : KV) : World → Prop := fun w =>
 nilW a0 (fun x1 w =>
 addW 17 x1 (fun x2 w =>
 load1W x2 (fun x3 w =>
 notW x3 (fun x4 w =>
 condP x4 (fun w => K (Value.int .u64 0) w) (fun w => nilW a0 (fun x5 w =>
 addW 16 x5 (fun x6 w =>
 load1W x6 (fun x7 w =>
 binIntW .add x7 (Value.int .u64 1) (fun x8 w =>
 K x8 w) w) w) w) w) w) w) w) w) w

theorem Q_commit_Commit_Stamp (a0 : Value) (K : KV) : S_commit_Commit_Stamp a0 K = P_commit_Commit_Stamp a0 K := by
  unfold S_commit_Commit_Stamp P_commit_Commit_Stamp
  generalize @addW = y_addW
  generalize @binIntW = y_binIntW
  generalize @condP = y_condP
  generalize @load1W = y_load1W
  generalize @nilW = y_nilW
  generalize @notW = y_notW
  rfl

/-- mem_Mem_Now -/
def P_mem_Mem_Now (a0 : Value) (K : KV) : World → Prop := fun w =>
 nilW a0 (fun x1 w =>
 addW 7 x1 (fun x2 w =>
 load1W x2 (fun x3 w =>
 CP Try.prog Fn.clock_Clock_Load [x3] (fun x4 w =>
 K x4 w) w) w) w) w

theorem Q_mem_Mem_Now (a0 : Value) (K : KV) : S_mem_Mem_Now a0 K = P_mem_Mem_Now a0 K := by
  unfold S_mem_Mem_Now P_mem_Mem_Now
  generalize @CP = y_CP
  generalize @addW = y_addW
  generalize @load1W = y_load1W
  generalize @nilW = y_nilW
  rfl

/-- ref7_Put -/
def P_ref7_Put (a0 a1 a2 : Value) (K : KV) : World → Prop := fun w =>
 appendW 2 16 (Value.slice none 0 0) a0 (fun x1 w =>
 CP Try.prog Fn.ref7_Place [x1, a1] (fun x2 w =>
 binIntW .geq x2 (Value.int .i64 0) (fun x3 w =>
 condP x3 (fun w => idxW 2 x1 x2 (fun x4 w =>
 addW 1 x4 (fun x5 w =>
 storeW 1 x5 a2 (fun _ w =>
 K x1 w) w) w) w) (fun w => buildW [(Value.int .i64 0), (Value.int .u64 0)] [(0, 1, a1), (1, 1, a2)] (fun x7 w =>
 buildSliceW [(Value.int .i64 0), (Value.int .u64 0)] 1 [(0, 2, x7)] (fun x8 w =>
 appendW 2 16 x1 x8 (fun x9 w =>
 K x9 w) w) w) w) w) w) w) w

theorem Q_ref7_Put (a0 a1 a2 : Value) (K : KV) : S_ref7_Put a0 a1 a2 K = P_ref7_Put a0 a1 a2 K := by
  unfold S_ref7_Put P_ref7_Put
  generalize @CP = y_CP
  generalize @addW = y_addW
  generalize @appendW = y_appendW
  generalize @binIntW = y_binIntW
  generalize @buildSliceW = y_buildSliceW
  generalize @buildW = y_buildW
  generalize @condP = y_condP
  generalize @idxW = y_idxW
  generalize @storeW = y_storeW
  rfl

/-- book_Within -/
def P_book_Within (a0 a1 a2 : Value) (K : KV) : World → Prop := fun w =>
 binIntW .sub a2 a1 (fun x1 w =>
 binIntW .add x1 (Value.int .i64 1) (fun x2 w =>
 binIntW .rem a0 x2 (fun x3 w =>
 binIntW .lss x3 (Value.int .i64 0) (fun x4 w =>
 joinW1 (fun x5 w =>
 binIntW .add a1 x5 (fun x6 w =>
 K x6 w) w) (fun j1 w =>
 condP x4 (fun w => binIntW .add x3 a2 (fun x7 w =>
 binIntW .sub x7 a1 (fun x8 w =>
 binIntW .add x8 (Value.int .i64 1) (fun x9 w =>
 j1 x9 w) w) w) w) (fun w => j1 x3 w) w) w) w) w) w) w

theorem Q_book_Within (a0 a1 a2 : Value) (K : KV) : S_book_Within a0 a1 a2 K = P_book_Within a0 a1 a2 K := by
  unfold S_book_Within P_book_Within
  generalize @binIntW = y_binIntW
  generalize @condP = y_condP
  generalize @joinW1 = y_joinW1
  rfl

/-- ref1_Of -/
def P_ref1_Of (a0 a1 a2 : Value) (K : KV) : World → Prop := fun w =>
 binIntW .lss a0 (Value.int .i64 0) (fun x1 w =>
 condP x1 (fun w => K (Value.int .i64 (-1)) w) (fun w => drewW (fun w => CP Try.prog Fn.ref1_Held [a2, (Value.int .i64 1), (Value.int .i64 16)] (fun x2 w =>
 andP (fun w => trueP w) (fun w =>
 binIntW .quo a0 x2 (fun x3 w =>
 CP Try.prog Fn.ref1_Held [a1, (Value.int .i64 1), (Value.int .i64 16)] (fun x4 w =>
 andP (fun w => trueP w) (fun w =>
 binIntW .rem x3 x4 (fun x5 w =>
 K x5 w) w) w) w) w) w) w) w) w) w

theorem Q_ref1_Of (a0 a1 a2 : Value) (K : KV) : S_ref1_Of a0 a1 a2 K = P_ref1_Of a0 a1 a2 K := by
  unfold S_ref1_Of P_ref1_Of
  generalize @CP = y_CP
  generalize @andP = y_andP
  generalize @binIntW = y_binIntW
  generalize @condP = y_condP
  generalize @drewW = y_drewW
  rfl

/-- law25_alone -/
def P_law25_alone (a0 a1 : Value) (K : KV) : World → Prop := fun w =>
 loopW1 (Value.int .i64 0) (fun J1 x1 w =>
 binIntW .lss x1 (Value.int .i64 300) (fun x2 w =>
 condP x2 (fun w => CP Try.prog Fn.commit_Commit_Next [a0] (fun x3 w =>
 extractW 0 x3 (fun x4 w =>
 extractW 1 x3 (fun x5 w =>
 newW #[(Value.int .i64 0), (Value.int .i64 0), (Value.int .u64 0), (Value.int .u64 0), (Value.int .u64 0), (Value.bool false), (Value.int .i64 0), (Value.int .u64 0), (Value.bool false), (Value.int .i64 0)] (fun x6 w =>
 storeW 10 x6 x4 (fun _ w =>
 notW x5 (fun x8 w =>
 condP x8 (fun w => K (Value.bool true) w) (fun w => loadNW 10 x6 (fun x9 w =>
 CP Try.prog Fn.mem_Mem_Do [a1, x9] (fun x10 w =>
 CP Try.prog Fn.commit_Commit_Tell [a0, x10] (fun x11 w =>
 binIntW .add x1 (Value.int .i64 1) (fun x12 w =>
 J1 x12 w) w) w) w) w) w) w) w) w) w) w) w) (fun w => K (Value.bool false) w) w) w) w

theorem Q_law25_alone (a0 a1 : Value) (K : KV) : S_law25_alone a0 a1 K = P_law25_alone a0 a1 K := by
  unfold S_law25_alone P_law25_alone
  generalize @CP = y_CP
  generalize @binIntW = y_binIntW
  generalize @condP = y_condP
  generalize @extractW = y_extractW
  generalize @loadNW = y_loadNW
  generalize @loopW1 = y_loopW1
  generalize @newW = y_newW
  generalize @notW = y_notW
  generalize @storeW = y_storeW
  rfl

/-- commit_Commit_By -/
def P_commit_Commit_By (a0 : Value) (K : KV) : World → Prop := fun w =>
 nilW a0 (fun x1 w =>
 addW 0 x1 (fun x2 w =>
 CP Try.prog Fn.patience_Patience_By [x2] (fun x3 w =>
 K x3 w) w) w) w

theorem Q_commit_Commit_By (a0 : Value) (K : KV) : S_commit_Commit_By a0 K = P_commit_Commit_By a0 K := by
  unfold S_commit_Commit_By P_commit_Commit_By
  generalize @CP = y_CP
  generalize @addW = y_addW
  generalize @nilW = y_nilW
  rfl

/-- book_Same_api_Lock -/
def P_book_Same_api_Lock (a0 a1 : Value) (K : KV) : World → Prop := fun w =>
 lenW a0 (fun x1 w =>
 lenW a1 (fun x2 w =>
 binIntW .neq x1 x2 (fun x3 w =>
 condP x3 (fun w => K (Value.bool false) w) (fun w => loopW1 (Value.int .i64 0) (fun J1 x4 w =>
 lenW a0 (fun x5 w =>
 binIntW .lss x4 x5 (fun x6 w =>
 condP x6 (fun w => drewW (fun w => idxW 3 a0 x4 (fun x7 w =>
 loadNW 3 x7 (fun x8 w =>
 idxW 3 a1 x4 (fun x9 w =>
 loadNW 3 x9 (fun x10 w =>
 eqAggW [.i .u64, .b, .i .i64] .neq x8 x10 (fun x11 w =>
 condP x11 (fun w => K (Value.bool false) w) (fun w => binIntW .add x4 (Value.int .i64 1) (fun x12 w =>
 J1 x12 w) w) w) w) w) w) w) w) w) (fun w => K (Value.bool true) w) w) w) w) w) w) w) w) w

theorem Q_book_Same_api_Lock (a0 a1 : Value) (K : KV) : S_book_Same_api_Lock a0 a1 K = P_book_Same_api_Lock a0 a1 K := by
  unfold S_book_Same_api_Lock P_book_Same_api_Lock
  generalize @binIntW = y_binIntW
  generalize @condP = y_condP
  generalize @drewW = y_drewW
  generalize @eqAggW = y_eqAggW
  generalize @idxW = y_idxW
  generalize @lenW = y_lenW
  generalize @loadNW = y_loadNW
  generalize @loopW1 = y_loopW1
  rfl

/-- commit_Commit_Err -/
def P_commit_Commit_Err (a0 : Value) (K : KV) : World → Prop := fun w =>
 nilW a0 (fun x1 w =>
 addW 0 x1 (fun x2 w =>
 CP Try.prog Fn.patience_Patience_Err [x2] (fun x3 w =>
 K x3 w) w) w) w

theorem Q_commit_Commit_Err (a0 : Value) (K : KV) : S_commit_Commit_Err a0 K = P_commit_Commit_Err a0 K := by
  unfold S_commit_Commit_Err P_commit_Commit_Err
  generalize @CP = y_CP
  generalize @addW = y_addW
  generalize @nilW = y_nilW
  rfl

/-- view_Whole -/
def P_view_Whole (a0 a1 : Value) (K : KV) : World → Prop := fun w =>
 lenW a0 (fun x1 w =>
 CP Try.prog Fn.view_New [x1, a1] (fun x2 w =>
 loopW1 (Value.int .i64 1) (fun J1 x3 w =>
 CP Try.prog Fn.view_View_Size [x2] (fun x4 w =>
 binIntW .lss x3 x4 (fun x5 w =>
 condP x5 (fun w => lenW a0 (fun x6 w =>
 binIntW .lss x3 x6 (fun x7 w =>
 joinW1 (fun x8 w =>
 CP Try.prog Fn.view_View_Know [x2, x3, x8] (fun x9 w =>
 binIntW .add x3 (Value.int .i64 1) (fun x10 w =>
 J1 x10 w) w) w) (fun j1 w =>
 condP x7 (fun w => idxW 1 a0 x3 (fun x11 w =>
 load1W x11 (fun x12 w =>
 j1 x12 w) w) w) (fun w => j1 (Value.int .u64 0) w) w) w) w) w) (fun w => K x2 w) w) w) w) w) w) w

theorem Q_view_Whole (a0 a1 : Value) (K : KV) : S_view_Whole a0 a1 K = P_view_Whole a0 a1 K := by
  unfold S_view_Whole P_view_Whole
  generalize @CP = y_CP
  generalize @binIntW = y_binIntW
  generalize @condP = y_condP
  generalize @idxW = y_idxW
  generalize @joinW1 = y_joinW1
  generalize @lenW = y_lenW
  generalize @load1W = y_load1W
  generalize @loopW1 = y_loopW1
  rfl

/-- arena_Fresh -/
def P_arena_Fresh (a0 : Value) (K : KV) : World → Prop := fun w =>
 minW a0 [(Value.int .i64 256)] (fun x1 w =>
 maxW (Value.int .i64 32) [x1] (fun x2 w =>
 makeSliceW 8 [(Value.int .u64 0)] x2 x2 (fun x3 w =>
 idxW 1 x3 (Value.int .i64 5) (fun x4 w =>
 storeW 1 x4 (Value.int .u64 14) (fun _ w =>
 K x3 w) w) w) w) w) w

theorem Q_arena_Fresh (a0 : Value) (K : KV) : S_arena_Fresh a0 K = P_arena_Fresh a0 K := by
  unfold S_arena_Fresh P_arena_Fresh
  generalize @idxW = y_idxW
  generalize @makeSliceW = y_makeSliceW
  generalize @maxW = y_maxW
  generalize @minW = y_minW
  generalize @storeW = y_storeW
  rfl

/-- table_Put -/
def P_table_Put (a0 a1 a2 a3 : Value) (K : KV) : World → Prop := fun w =>
 boxW a1 (fun x1 w =>
 boxW a2 (fun x2 w =>
 boxW a3 (fun x3 w =>
 newW #[(Value.bool false)] (fun x4 w =>
 storeW 1 x4 (Value.bool false) (fun _ w =>
 load1W x1 (fun x6 w =>
 CP Try.prog Fn.draft_Do [a0, x6, (Value.func (.func Fn.table_Put_1) #[] #[x1, x2, x3, x4])] (fun x7 w =>
 load1W x4 (fun x8 w =>
 gW x8 true (fun K w => K x7 w) (fun x9 w =>
 gW x8 true (fun K w => binIntW .eql x9 (Value.int .i64 0) K w) (fun x10 w =>
 pickW x8 x10 (Value.bool false) (fun x11 w =>
 K (Value.tuple #[x11, x7]) w) w) w) w) w) w) w) w) w) w) w) w

theorem Q_table_Put (a0 a1 a2 a3 : Value) (K : KV) : S_table_Put a0 a1 a2 a3 K = P_table_Put a0 a1 a2 a3 K := by
  unfold S_table_Put P_table_Put
  generalize @CP = y_CP
  generalize @binIntW = y_binIntW
  generalize @boxW = y_boxW
  generalize @gW = y_gW
  generalize @load1W = y_load1W
  generalize @newW = y_newW
  generalize @pickW = y_pickW
  generalize @storeW = y_storeW
  rfl

/-- table_Get -/
def P_table_Get (a0 a1 a2 : Value) (K : KV) : World → Prop := fun w =>
 boxW a1 (fun x1 w =>
 boxW a2 (fun x2 w =>
 newW #[(Value.int .u64 0)] (fun x3 w =>
 newW #[(Value.bool false)] (fun x4 w =>
 storeW 1 x3 (Value.int .u64 0) (fun _ w =>
 storeW 1 x4 (Value.bool false) (fun _ w =>
 load1W x1 (fun x7 w =>
 CP Try.prog Fn.draft_Do [a0, x7, (Value.func (.func Fn.table_Get_1) #[] #[x1, x2, x3, x4])] (fun x8 w =>
 binIntW .neq x8 (Value.int .i64 0) (fun x9 w =>
 condP x9 (fun w => K (Value.tuple #[(Value.int .u64 0), (Value.bool false), x8]) w) (fun w => drewW (fun w => load1W x3 (fun x10 w =>
 load1W x4 (fun x11 w =>
 K (Value.tuple #[x10, x11, (Value.int .i64 0)]) w) w) w) w) w) w) w) w) w) w) w) w) w) w

theorem Q_table_Get (a0 a1 a2 : Value) (K : KV) : S_table_Get a0 a1 a2 K = P_table_Get a0 a1 a2 K := by
  unfold S_table_Get P_table_Get
  generalize @CP = y_CP
  generalize @binIntW = y_binIntW
  generalize @boxW = y_boxW
  generalize @condP = y_condP
  generalize @drewW = y_drewW
  generalize @load1W = y_load1W
  generalize @newW = y_newW
  generalize @storeW = y_storeW
  rfl

/-- table_All -/
def P_table_All (a0 a1 : Value) (K : KV) : World → Prop := fun w =>
 boxW a1 (fun x1 w =>
 newW #[(Value.slice none 0 0)] (fun x2 w =>
 load1W x1 (fun x3 w =>
 CP Try.prog Fn.draft_Do [a0, x3, (Value.func (.func Fn.table_All_1) #[] #[x1, x2])] (fun x4 w =>
 binIntW .neq x4 (Value.int .i64 0) (fun x5 w =>
 condP x5 (fun w => K (Value.tuple #[(Value.slice none 0 0), x4]) w) (fun w => load1W x2 (fun x6 w =>
 CP Try.prog Fn.slices_SortFunc_api_Pair_api_Pair [x6, (Value.func (.func Fn.table_All_2) #[] #[])] (fun x7 w =>
 load1W x2 (fun x8 w =>
 K (Value.tuple #[x8, (Value.int .i64 0)]) w) w) w) w) w) w) w) w) w) w

theorem Q_table_All (a0 a1 : Value) (K : KV) : S_table_All a0 a1 K = P_table_All a0 a1 K := by
  unfold S_table_All P_table_All
  generalize @CP = y_CP
  generalize @binIntW = y_binIntW
  generalize @boxW = y_boxW
  generalize @condP = y_condP
  generalize @load1W = y_load1W
  generalize @newW = y_newW
  rfl

/-- mem_Held -/
def P_mem_Held (a0 : Value) (K : KV) : World → Prop := fun w =>
 boxW a0 (fun x1 w =>
 newW #[(Value.int .i64 0), (Value.int .i64 0), (Value.int .i64 0), (Value.int .i64 0), (Value.int .u64 0)] (fun x2 w =>
 addW 0 x1 (fun x3 w =>
 load1W x3 (fun x4 w =>
 minW x4 [(Value.int .i64 256)] (fun x5 w =>
 maxW (Value.int .i64 32) [x5] (fun x6 w =>
 addW 1 x1 (fun x7 w =>
 load1W x7 (fun x8 w =>
 minW x8 [(Value.int .i64 16)] (fun x9 w =>
 maxW (Value.int .i64 1) [x9] (fun x10 w =>
 addW 2 x1 (fun x11 w =>
 load1W x11 (fun x12 w =>
 minW x12 [(Value.int .i64 16)] (fun x13 w =>
 maxW (Value.int .i64 1) [x13] (fun x14 w =>
 addW 3 x1 (fun x15 w =>
 load1W x15 (fun x16 w =>
 minW x16 [(Value.int .i64 4)] (fun x17 w =>
 maxW (Value.int .i64 1) [x17] (fun x18 w =>
 addW 4 x1 (fun x19 w =>
 load1W x19 (fun x20 w =>
 minW x20 [(Value.int .u64 4611686018427387903)] (fun x21 w =>
 buildW [(Value.int .i64 0), (Value.int .i64 0), (Value.int .i64 0), (Value.int .i64 0), (Value.int .u64 0)] [(0, 1, x6), (1, 1, x10), (2, 1, x14), (3, 1, x18), (4, 1, x21)] (fun x22 w =>
 storeW 5 x2 x22 (fun _ w =>
 loadNW 5 x2 (fun x24 w =>
 K x24 w) w) w) w) w) w) w) w) w) w) w) w) w) w) w) w) w) w) w) w) w) w) w) w) w

theorem Q_mem_Held (a0 : Value) (K : KV) : S_mem_Held a0 K = P_mem_Held a0 K := by
  unfold S_mem_Held P_mem_Held
  generalize @addW = y_addW
  generalize @boxW = y_boxW
  generalize @buildW = y_buildW
  generalize @load1W = y_load1W
  generalize @loadNW = y_loadNW
  generalize @maxW = y_maxW
  generalize @minW = y_minW
  generalize @newW = y_newW
  generalize @storeW = y_storeW
  rfl

/-- heap_New -/
def P_heap_New (a0 : Value) (K : KV) : World → Prop := fun w =>
 minW a0 [(Value.int .i64 256)] (fun x1 w =>
 maxW (Value.int .i64 32) [x1] (fun x2 w =>
 makeSliceW 8 [(Value.int .u64 0)] x2 x2 (fun x3 w =>
 buildW [(Value.slice none 0 0)] [(0, 1, x3)] (fun x4 w =>
 boxW x4 (fun x5 w =>
 K x5 w) w) w) w) w) w

theorem Q_heap_New (a0 : Value) (K : KV) : S_heap_New a0 K = P_heap_New a0 K := by
  unfold S_heap_New P_heap_New
  generalize @boxW = y_boxW
  generalize @buildW = y_buildW
  generalize @makeSliceW = y_makeSliceW
  generalize @maxW = y_maxW
  generalize @minW = y_minW
  rfl

/-- stripe_New -/
def P_stripe_New (a0 a1 : Value) (K : KV) : World → Prop := fun w =>
 drewW (fun w => CP Try.prog Fn.stripe_near [a0, (Value.int .i64 16)] (fun x1 w =>
 andP (fun w => trueP w) (fun w =>
 andP (fun w => makeSliceW 24 [(Value.int .u64 0), (Value.bool false), (Value.int .i64 0)] x1 x1 (fun x2 w =>
 andP (fun w => trueP w) (fun w =>
 CP Try.prog Fn.stripe_near [a1, (Value.int .i64 16)] (fun x3 w =>
 andP (fun w => trueP w) (fun w =>
 buildW [(Value.slice none 0 0), (Value.int .i64 0)] [(0, 1, x2), (1, 1, x3)] (fun x4 w =>
 boxW x4 (fun x5 w =>
 andP (fun w => trueP w) (fun w =>
 K x5 w) w) w) w) w) w) w) w) (fun w => CP Try.prog Fn.stripe_near [a1, (Value.int .i64 16)] (fun x6 w =>
 andP (fun w => trueP w) (fun w =>
 makeSliceW 24 [(Value.int .u64 0), (Value.bool false), (Value.int .i64 0)] x1 x1 (fun x7 w =>
 andP (fun w => trueP w) (fun w =>
 buildW [(Value.slice none 0 0), (Value.int .i64 0)] [(0, 1, x7), (1, 1, x6)] (fun x8 w =>
 boxW x8 (fun x9 w =>
 andP (fun w => trueP w) (fun w =>
 K x9 w) w) w) w) w) w) w) w) w) w) w) w

theorem Q_stripe_New (a0 a1 : Value) (K : KV) : S_stripe_New a0 a1 K = P_stripe_New a0 a1 K := by
  unfold S_stripe_New P_stripe_New
  generalize @CP = y_CP
  generalize @andP = y_andP
  generalize @boxW = y_boxW
  generalize @buildW = y_buildW
  generalize @drewW = y_drewW
  generalize @makeSliceW = y_makeSliceW
  rfl

/-- clock_New -/
def P_clock_New (a0 : Value) (K : KV) : World → Prop := fun w =>
 minW a0 [(Value.int .u64 4611686018427387903)] (fun x1 w =>
 buildW [(Value.int .u64 0)] [(0, 1, x1)] (fun x2 w =>
 boxW x2 (fun x3 w =>
 K x3 w) w) w) w

theorem Q_clock_New (a0 : Value) (K : KV) : S_clock_New a0 K = P_clock_New a0 K := by
  unfold S_clock_New P_clock_New
  generalize @boxW = y_boxW
  generalize @buildW = y_buildW
  generalize @minW = y_minW
  rfl

/-- epoch_New -/
def P_epoch_New (a0 : Value) (K : KV) : World → Prop := fun w =>
 minW a0 [(Value.int .i64 4)] (fun x1 w =>
 maxW (Value.int .i64 1) [x1] (fun x2 w =>
 makeSliceW 8 [(Value.int .u64 0)] x2 x2 (fun x3 w =>
 buildW [(Value.slice none 0 0)] [(0, 1, x3)] (fun x4 w =>
 boxW x4 (fun x5 w =>
 K x5 w) w) w) w) w) w

theorem Q_epoch_New (a0 : Value) (K : KV) : S_epoch_New a0 K = P_epoch_New a0 K := by
  unfold S_epoch_New P_epoch_New
  generalize @boxW = y_boxW
  generalize @buildW = y_buildW
  generalize @makeSliceW = y_makeSliceW
  generalize @maxW = y_maxW
  generalize @minW = y_minW
  rfl

/-- patience_New -/
def P_patience_New (a0 a1 : Value) (K : KV) : World → Prop := fun w =>
 newW #[(Value.int .i64 0), (Value.int .i64 0), (Value.int .i64 0), (Value.int .i64 0), (Value.int .i64 0)] (fun x1 w =>
 minW a1 [(Value.int .i64 4)] (fun x2 w =>
 maxW (Value.int .i64 0) [x2] (fun x3 w =>
 buildW [(Value.int .i64 0), (Value.int .i64 0), (Value.int .i64 0), (Value.int .i64 0), (Value.int .i64 0)] [(0, 1, a0), (1, 1, x3), (3, 1, (Value.int .i64 (-1)))] (fun x4 w =>
 storeW 5 x1 x4 (fun _ w =>
 loadNW 5 x1 (fun x6 w =>
 K x6 w) w) w) w) w) w) w

theorem Q_patience_New (a0 a1 : Value) (K : KV) : S_patience_New a0 a1 K = P_patience_New a0 a1 K := by
  unfold S_patience_New P_patience_New
  generalize @buildW = y_buildW
  generalize @loadNW = y_loadNW
  generalize @maxW = y_maxW
  generalize @minW = y_minW
  generalize @newW = y_newW
  generalize @storeW = y_storeW
  rfl

/-- slices_Clone_api_Seen_api_Seen -/
def P_slices_Clone_api_Seen_api_Seen (a0 : Value) (K : KV) : World → Prop := fun w =>
 eqNilSliceW .eql a0 (Value.slice none 0 0) (fun x1 w =>
 condP x1 (fun w => K (Value.slice none 0 0) w) (fun w => buildSliceW [(Value.int .i64 0), (Value.int .u64 0)] 0 [] (fun x2 w =>
 appendW 2 16 x2 a0 (fun x3 w =>
 K x3 w) w) w) w) w

theorem Q_slices_Clone_api_Seen_api_Seen (a0 : Value) (K : KV) : S_slices_Clone_api_Seen_api_Seen a0 K = P_slices_Clone_api_Seen_api_Seen a0 K := by
  unfold S_slices_Clone_api_Seen_api_Seen P_slices_Clone_api_Seen_api_Seen
  generalize @appendW = y_appendW
  generalize @buildSliceW = y_buildSliceW
  generalize @condP = y_condP
  generalize @eqNilSliceW = y_eqNilSliceW
  rfl

/-- slices_Clone_api_Cell_api_Cell -/
def P_slices_Clone_api_Cell_api_Cell (a0 : Value) (K : KV) : World → Prop := fun w =>
 eqNilSliceW .eql a0 (Value.slice none 0 0) (fun x1 w =>
 condP x1 (fun w => K (Value.slice none 0 0) w) (fun w => buildSliceW [(Value.int .i64 0), (Value.int .u64 0)] 0 [] (fun x2 w =>
 appendW 2 16 x2 a0 (fun x3 w =>
 K x3 w) w) w) w) w

theorem Q_slices_Clone_api_Cell_api_Cell (a0 : Value) (K : KV) : S_slices_Clone_api_Cell_api_Cell a0 K = P_slices_Clone_api_Cell_api_Cell a0 K := by
  unfold S_slices_Clone_api_Cell_api_Cell P_slices_Clone_api_Cell_api_Cell
  generalize @appendW = y_appendW
  generalize @buildSliceW = y_buildSliceW
  generalize @condP = y_condP
  generalize @eqNilSliceW = y_eqNilSliceW
  rfl

/-- writes_Stripes -/
def P_writes_Stripes (a0 a1 a2 : Value) (K : KV) : World → Prop := fun w =>
 lenW a0 (fun x1 w =>
 loopW2 (Value.slice none 0 0) (Value.int .i64 0) (fun J1 x2 x3 w =>
 binIntW .lss x3 x1 (fun x4 w =>
 condP x4 (fun w => idxW 2 a0 x3 (fun x5 w =>
 loadNW 2 x5 (fun x6 w =>
 newW #[(Value.int .i64 0), (Value.int .u64 0)] (fun x7 w =>
 storeW 2 x7 x6 (fun _ w =>
 addW 0 x7 (fun x9 w =>
 load1W x9 (fun x10 w =>
 CP Try.prog Fn.stripe_Of [x10, a1, a2] (fun x11 w =>
 binIntW .geq x11 (Value.int .i64 0) (fun x12 w =>
 joinW1 (fun x13 w =>
 binIntW .add x3 (Value.int .i64 1) (fun x14 w =>
 J1 x13 x14 w) w) (fun j1 w =>
 condP x12 (fun w => buildSliceW [(Value.int .i64 0)] 1 [(0, 1, x11)] (fun x15 w =>
 appendW 1 8 x2 x15 (fun x16 w =>
 j1 x16 w) w) w) (fun w => j1 x2 w) w) w) w) w) w) w) w) w) w) w) (fun w => CP Try.prog Fn.slices_Sort_int_int [x2] (fun x17 w =>
 CP Try.prog Fn.slices_Compact_int_int [x2] (fun x18 w =>
 K x18 w) w) w) w) w) w) w

theorem Q_writes_Stripes (a0 a1 a2 : Value) (K : KV) : S_writes_Stripes a0 a1 a2 K = P_writes_Stripes a0 a1 a2 K := by
  unfold S_writes_Stripes P_writes_Stripes
  generalize @CP = y_CP
  generalize @addW = y_addW
  generalize @appendW = y_appendW
  generalize @binIntW = y_binIntW
  generalize @buildSliceW = y_buildSliceW
  generalize @condP = y_condP
  generalize @idxW = y_idxW
  generalize @joinW1 = y_joinW1
  generalize @lenW = y_lenW
  generalize @load1W = y_load1W
  generalize @loadNW = y_loadNW
  generalize @loopW2 = y_loopW2
  generalize @newW = y_newW
  generalize @storeW = y_storeW
  rfl

/-- commit_Commit_more -/
def P_commit_Commit_more (a0 : Value) (K : KV) : World → Prop := fun w =>
 nilW a0 (fun x1 w =>
 addW 11 x1 (fun x2 w =>
 storeW 1 x2 (Value.int .i64 0) (fun _ w =>
 drewW (fun w => nilW a0 (fun x4 w =>
 addW 10 x4 (fun x5 w =>
 load1W x5 (fun x6 w =>
 lenW x6 (fun x7 w =>
 nilW a0 (fun x8 w =>
 addW 9 x8 (fun x9 w =>
 load1W x9 (fun x10 w =>
 lenW x10 (fun x11 w =>
 binIntW .eql x7 x11 (fun x12 w =>
 joinW0 (fun  w =>
 K (Value.tuple #[]) w) (fun j1 w =>
 condP x12 (fun w => nilW a0 (fun x13 w =>
 addW 11 x13 (fun x14 w =>
 storeW 1 x14 (Value.int .i64 2) (fun _ w =>
 j1  w) w) w) w) (fun w => j1  w) w) w) w) w) w) w) w) w) w) w) w) w) w) w) w

theorem Q_commit_Commit_more (a0 : Value) (K : KV) : S_commit_Commit_more a0 K = P_commit_Commit_more a0 K := by
  unfold S_commit_Commit_more P_commit_Commit_more
  generalize @addW = y_addW
  generalize @binIntW = y_binIntW
  generalize @condP = y_condP
  generalize @drewW = y_drewW
  generalize @joinW0 = y_joinW0
  generalize @lenW = y_lenW
  generalize @load1W = y_load1W
  generalize @nilW = y_nilW
  generalize @storeW = y_storeW
  rfl

/-- patience_Patience_End -/
def P_patience_Patience_End (a0 : Value) (K : KV) : World → Prop := fun w =>
 nilW a0 (fun x1 w =>
 addW 2 x1 (fun x2 w =>
 load1W x2 (fun x3 w =>
 K x3 w) w) w) w

theorem Q_patience_Patience_End (a0 : Value) (K : KV) : S_patience_Patience_End a0 K = P_patience_Patience_End a0 K := by
  unfold S_patience_Patience_End P_patience_Patience_End
  generalize @addW = y_addW
  generalize @load1W = y_load1W
  generalize @nilW = y_nilW
  rfl

/-- patience_Patience_Stopped -/
def P_patience_Patience_Stopped (a0 a1 : Value) (K : KV) : World → Prop := fun w =>
 boxW a1 (fun x1 w =>
 nilW a0 (fun x2 w =>
 addW 2 x2 (fun x3 w =>
 load1W x3 (fun x4 w =>
 binIntW .eql x4 (Value.int .i64 0) (fun x5 w =>
 gW x5 true (fun K w => addW 5 x1 K w) (fun x6 w =>
 gW x5 true (fun K w => load1W x6 K w) (fun x7 w =>
 gW x5 true (fun K w => binIntW .neq x7 (Value.int .i64 0) K w) (fun x8 w =>
 pickW x5 x8 (Value.bool false) (fun x9 w =>
 joinW0 (fun  w =>
 nilW a0 (fun x10 w =>
 addW 2 x10 (fun x11 w =>
 load1W x11 (fun x12 w =>
 binIntW .neq x12 (Value.int .i64 0) (fun x13 w =>
 K x13 w) w) w) w) w) (fun j1 w =>
 condP x9 (fun w => addW 5 x1 (fun x14 w =>
 load1W x14 (fun x15 w =>
 CP Try.prog Fn.patience_Patience_Stop [a0, (Value.int .i64 4), x15, (Value.int .i64 (-1))] (fun x16 w =>
 j1  w) w) w) w) (fun w => j1  w) w) w) w) w) w) w) w) w) w) w) w

theorem Q_patience_Patience_Stopped (a0 a1 : Value) (K : KV) : S_patience_Patience_Stopped a0 a1 K = P_patience_Patience_Stopped a0 a1 K := by
  unfold S_patience_Patience_Stopped P_patience_Patience_Stopped
  generalize @CP = y_CP
  generalize @addW = y_addW
  generalize @binIntW = y_binIntW
  generalize @boxW = y_boxW
  generalize @condP = y_condP
  generalize @gW = y_gW
  generalize @joinW0 = y_joinW0
  generalize @load1W = y_load1W
  generalize @nilW = y_nilW
  generalize @pickW = y_pickW
  rfl

/-- commit_Commit_take -/
def P_commit_Commit_take (a0 a1 : Value) (K : KV) : World → Prop := fun w =>
 boxW a1 (fun x1 w =>
 nilW a0 (fun x2 w =>
 addW 11 x2 (fun x3 w =>
 load1W x3 (fun x4 w =>
 binIntW .eql x4 (Value.int .i64 0) (fun x5 w =>
 gW x5 true (fun K w => addW 1 x1 K w) (fun x6 w =>
 gW x5 true (fun K w => addW 1 x6 K w) (fun x7 w =>
 gW x5 true (fun K w => load1W x7 K w) (fun x8 w =>
 pickW x5 x8 (Value.bool false) (fun x9 w =>
 joinW0 (fun  w =>
 K (Value.tuple #[]) w) (fun j1 w =>
 condP x9 (fun w => addW 1 x1 (fun x10 w =>
 loadNW 3 x10 (fun x11 w =>
 CP Try.prog Fn.commit_Commit_held [a0, x11] (fun x12 w =>
 j1  w) w) w) w) (fun w => nilW a0 (fun x13 w =>
 addW 11 x13 (fun x14 w =>
 load1W x14 (fun x15 w =>
 binIntW .eql x15 (Value.int .i64 0) (fun x16 w =>
 joinW0 (fun  w =>
 j1  w) (fun j2 w =>
 condP x16 (fun w => addW 1 x1 (fun x17 w =>
 loadNW 3 x17 (fun x18 w =>
 nilW a0 (fun x19 w =>
 addW 13 x19 (fun x20 w =>
 storeW 3 x20 x18 (fun _ w =>
 nilW a0 (fun x22 w =>
 addW 11 x22 (fun x23 w =>
 storeW 1 x23 (Value.int .i64 1) (fun _ w =>
 j2  w) w) w) w) w) w) w) w) w) (fun w => addW 4 x1 (fun x25 w =>
 load1W x25 (fun x26 w =>
 joinW0 (fun  w =>
 j2  w) (fun j3 w =>
 condP x26 (fun w => drewW (fun w => nilW a0 (fun x27 w =>
 addW 10 x27 (fun x28 w =>
 load1W x28 (fun x29 w =>
 nilW a0 (fun x30 w =>
 addW 13 x30 (fun x31 w =>
 loadNW 3 x31 (fun x32 w =>
 buildSliceW [(Value.int .u64 0), (Value.bool false), (Value.int .i64 0)] 1 [(0, 3, x32)] (fun x33 w =>
 andP (fun w => andP (fun w => trueP w) (fun w => andP (fun w => load1W x28 (fun v w => eqP v x29 w) w) (fun w => trueP w) w) w) (fun w =>
 appendW 3 24 x29 x33 (fun x34 w =>
 andP (fun w => andP (fun w => trueP w) (fun w => trueP w) w) (fun w =>
 nilW a0 (fun x35 w =>
 addW 10 x35 (fun x36 w =>
 storeW 1 x36 x34 (fun _ w =>
 andP (fun w => trueP w) (fun w =>
 CP Try.prog Fn.commit_Commit_more [a0] (fun x38 w =>
 j3  w) w) w) w) w) w) w) w) w) w) w) w) w) w) w) w) w) (fun w => nilW a0 (fun x39 w =>
 addW 11 x39 (fun x40 w =>
 storeW 1 x40 (Value.int .i64 0) (fun _ w =>
 j3  w) w) w) w) w) w) w) w) w) w) w) w) w) w) w) w) w) w) w) w) w) w) w) w) w

theorem Q_commit_Commit_take (a0 a1 : Value) (K : KV) : S_commit_Commit_take a0 a1 K = P_commit_Commit_take a0 a1 K := by
  unfold S_commit_Commit_take P_commit_Commit_take
  generalize @CP = y_CP
  generalize @addW = y_addW
  generalize @andP = y_andP
  generalize @appendW = y_appendW
  generalize @binIntW = y_binIntW
  generalize @boxW = y_boxW
  generalize @buildSliceW = y_buildSliceW
  generalize @condP = y_condP
  generalize @drewW = y_drewW
  generalize @eqP = y_eqP
  generalize @gW = y_gW
  generalize @joinW0 = y_joinW0
  generalize @load1W = y_load1W
  generalize @loadNW = y_loadNW
  generalize @nilW = y_nilW
  generalize @pickW = y_pickW
  generalize @storeW = y_storeW
  rfl

/-- commit_Commit_raise -/
def P_commit_Commit_raise (a0 a1 : Value) (K : KV) : World → Prop := fun w =>
 boxW a1 (fun x1 w =>
 nilW a0 (fun x2 w =>
 addW 11 x2 (fun x3 w =>
 load1W x3 (fun x4 w =>
 binIntW .eql x4 (Value.int .i64 2) (fun x5 w =>
 gW x5 true (fun K w => addW 0 x1 K w) (fun x6 w =>
 gW x5 true (fun K w => load1W x6 K w) (fun x7 w =>
 gW x5 true (fun K w => binIntW .geq x7 (Value.int .u64 4611686018427387903) K w) (fun x8 w =>
 pickW x5 x8 (Value.bool false) (fun x9 w =>
 joinW0 (fun  w =>
 K (Value.tuple #[]) w) (fun j1 w =>
 condP x9 (fun w => CP Try.prog Fn.commit_Commit_stop [a0, (Value.int .i64 4), (Value.int .i64 7), (Value.int .i64 (-1))] (fun x10 w =>
 j1  w) w) (fun w => nilW a0 (fun x11 w =>
 addW 11 x11 (fun x12 w =>
 load1W x12 (fun x13 w =>
 binIntW .eql x13 (Value.int .i64 2) (fun x14 w =>
 joinW0 (fun  w =>
 j1  w) (fun j2 w =>
 condP x14 (fun w => addW 0 x1 (fun x15 w =>
 load1W x15 (fun x16 w =>
 nilW a0 (fun x17 w =>
 addW 16 x17 (fun x18 w =>
 storeW 1 x18 x16 (fun _ w =>
 nilW a0 (fun x20 w =>
 addW 11 x20 (fun x21 w =>
 storeW 1 x21 (Value.int .i64 3) (fun _ w =>
 j2  w) w) w) w) w) w) w) w) w) (fun w => addW 4 x1 (fun x23 w =>
 load1W x23 (fun x24 w =>
 notW x24 (fun x25 w =>
 joinW0 (fun  w =>
 j2  w) (fun j3 w =>
 condP x25 (fun w => nilW a0 (fun x26 w =>
 addW 11 x26 (fun x27 w =>
 storeW 1 x27 (Value.int .i64 2) (fun _ w =>
 j3  w) w) w) w) (fun w => drewW (fun w => nilW a0 (fun x29 w =>
 addW 16 x29 (fun x30 w =>
 load1W x30 (fun x31 w =>
 nilW a0 (fun x32 w =>
 addW 6 x32 (fun x33 w =>
 load1W x33 (fun x34 w =>
 binIntW .eql x31 x34 (fun x35 w =>
 joinW0 (fun  w =>
 j3  w) (fun j4 w =>
 condP x35 (fun w => CP Try.prog Fn.commit_Commit_begin [a0] (fun x36 w =>
 j4  w) w) (fun w => CP Try.prog Fn.commit_Commit_prove [a0] (fun x37 w =>
 j4  w) w) w) w) w) w) w) w) w) w) w) w) w) w) w) w) w) w) w) w) w) w) w) w) w) w) w) w) w) w) w) w) w) w

theorem Q_commit_Commit_raise (a0 a1 : Value) (K : KV) : S_commit_Commit_raise a0 a1 K = P_commit_Commit_raise a0 a1 K := by
  unfold S_commit_Commit_raise P_commit_Commit_raise
  generalize @CP = y_CP
  generalize @addW = y_addW
  generalize @binIntW = y_binIntW
  generalize @boxW = y_boxW
  generalize @condP = y_condP
  generalize @drewW = y_drewW
  generalize @gW = y_gW
  generalize @joinW0 = y_joinW0
  generalize @load1W = y_load1W
  generalize @nilW = y_nilW
  generalize @notW = y_notW
  generalize @pickW = y_pickW
  generalize @storeW = y_storeW
  rfl

/-- commit_Commit_proved -/
def P_commit_Commit_proved (a0 a1 : Value) (K : KV) : World → Prop := fun w =>
 boxW a1 (fun x1 w =>
 addW 1 x1 (fun x2 w =>
 load1W x2 (fun x3 w =>
 joinW0 (fun  w =>
 K (Value.tuple #[]) w) (fun j1 w =>
 condP x3 (fun w => loadNW 3 x1 (fun x4 w =>
 CP Try.prog Fn.commit_Commit_held [a0, x4] (fun x5 w =>
 j1  w) w) w) (fun w => drewW (fun w => addW 0 x1 (fun x6 w =>
 load1W x6 (fun x7 w =>
 nilW a0 (fun x8 w =>
 addW 7 x8 (fun x9 w =>
 load1W x9 (fun x10 w =>
 nilW a0 (fun x11 w =>
 addW 12 x11 (fun x12 w =>
 load1W x12 (fun x13 w =>
 idxW 2 x10 x13 (fun x14 w =>
 addW 1 x14 (fun x15 w =>
 load1W x15 (fun x16 w =>
 binIntW .neq x7 x16 (fun x17 w =>
 joinW0 (fun  w =>
 j1  w) (fun j2 w =>
 condP x17 (fun w => CP Try.prog Fn.commit_Commit_stop [a0, (Value.int .i64 5), (Value.int .i64 0), (Value.int .i64 (-1))] (fun x18 w =>
 j2  w) w) (fun w => nilW a0 (fun x19 w =>
 addW 12 x19 (fun x20 w =>
 load1W x20 (fun x21 w =>
 binIntW .add x21 (Value.int .i64 1) (fun x22 w =>
 nilW a0 (fun x23 w =>
 addW 12 x23 (fun x24 w =>
 storeW 1 x24 x22 (fun _ w =>
 CP Try.prog Fn.commit_Commit_prove [a0] (fun x26 w =>
 j2  w) w) w) w) w) w) w) w) w) w) w) w) w) w) w) w) w) w) w) w) w) w) w) w) w) w) w) w) w

theorem Q_commit_Commit_proved (a0 a1 : Value) (K : KV) : S_commit_Commit_proved a0 a1 K = P_commit_Commit_proved a0 a1 K := by
  unfold S_commit_Commit_proved P_commit_Commit_proved
  generalize @CP = y_CP
  generalize @addW = y_addW
  generalize @binIntW = y_binIntW
  generalize @boxW = y_boxW
  generalize @condP = y_condP
  generalize @drewW = y_drewW
  generalize @idxW = y_idxW
  generalize @joinW0 = y_joinW0
  generalize @load1W = y_load1W
  generalize @loadNW = y_loadNW
  generalize @nilW = y_nilW
  generalize @storeW = y_storeW
  rfl

/-- commit_Commit_write -/
def P_commit_Commit_write (a0 : Value) (K : KV) : World → Prop := fun w =>
 drewW (fun w => nilW a0 (fun x1 w =>
 addW 12 x1 (fun x2 w =>
 load1W x2 (fun x3 w =>
 nilW a0 (fun x4 w =>
 addW 8 x4 (fun x5 w =>
 load1W x5 (fun x6 w =>
 lenW x6 (fun x7 w =>
 binIntW .eql x3 x7 (fun x8 w =>
 joinW0 (fun  w =>
 K (Value.tuple #[]) w) (fun j1 w =>
 condP x8 (fun w => nilW a0 (fun x9 w =>
 addW 12 x9 (fun x10 w =>
 storeW 1 x10 (Value.int .i64 0) (fun _ w =>
 nilW a0 (fun x12 w =>
 addW 11 x12 (fun x13 w =>
 storeW 1 x13 (Value.int .i64 6) (fun _ w =>
 CP Try.prog Fn.commit_Commit_give [a0] (fun x15 w =>
 j1  w) w) w) w) w) w) w) w) (fun w => j1  w) w) w) w) w) w) w) w) w) w) w) w

theorem Q_commit_Commit_write (a0 : Value) (K : KV) : S_commit_Commit_write a0 K = P_commit_Commit_write a0 K := by
  unfold S_commit_Commit_write P_commit_Commit_write
  generalize @CP = y_CP
  generalize @addW = y_addW
  generalize @binIntW = y_binIntW
  generalize @condP = y_condP
  generalize @drewW = y_drewW
  generalize @joinW0 = y_joinW0
  generalize @lenW = y_lenW
  generalize @load1W = y_load1W
  generalize @nilW = y_nilW
  generalize @storeW = y_storeW
  rfl

/-- commit_Commit_give -/
def P_commit_Commit_give (a0 : Value) (K : KV) : World → Prop := fun w =>
 drewW (fun w => nilW a0 (fun x1 w =>
 addW 12 x1 (fun x2 w =>
 load1W x2 (fun x3 w =>
 nilW a0 (fun x4 w =>
 addW 9 x4 (fun x5 w =>
 load1W x5 (fun x6 w =>
 lenW x6 (fun x7 w =>
 binIntW .eql x3 x7 (fun x8 w =>
 joinW0 (fun  w =>
 K (Value.tuple #[]) w) (fun j1 w =>
 condP x8 (fun w => nilW a0 (fun x9 w =>
 addW 0 x9 (fun x10 w =>
 CP Try.prog Fn.patience_Patience_Stop [x10, (Value.int .i64 2), (Value.int .i64 0), (Value.int .i64 (-1))] (fun x11 w =>
 j1  w) w) w) w) (fun w => j1  w) w) w) w) w) w) w) w) w) w) w) w

theorem Q_commit_Commit_give (a0 : Value) (K : KV) : S_commit_Commit_give a0 K = P_commit_Commit_give a0 K := by
  unfold S_commit_Commit_give P_commit_Commit_give
  generalize @CP = y_CP
  generalize @addW = y_addW
  generalize @binIntW = y_binIntW
  generalize @condP = y_condP
  generalize @drewW = y_drewW
  generalize @joinW0 = y_joinW0
  generalize @lenW = y_lenW
  generalize @load1W = y_load1W
  generalize @nilW = y_nilW
  rfl

/-- commit_Commit_leave -/
def P_commit_Commit_leave (a0 : Value) (K : KV) : World → Prop := fun w =>
 drewW (fun w => nilW a0 (fun x1 w =>
 addW 12 x1 (fun x2 w =>
 load1W x2 (fun x3 w =>
 nilW a0 (fun x4 w =>
 addW 10 x4 (fun x5 w =>
 load1W x5 (fun x6 w =>
 lenW x6 (fun x7 w =>
 binIntW .eql x3 x7 (fun x8 w =>
 joinW0 (fun  w =>
 K (Value.tuple #[]) w) (fun j1 w =>
 condP x8 (fun w => drewW (fun w => nilW a0 (fun x9 w =>
 addW 0 x9 (fun x10 w =>
 nilW a0 (fun x11 w =>
 addW 18 x11 (fun x12 w =>
 load1W x12 (fun x13 w =>
 nilW a0 (fun x14 w =>
 addW 20 x14 (fun x15 w =>
 load1W x15 (fun x16 w =>
 nilW a0 (fun x17 w =>
 addW 19 x17 (fun x18 w =>
 load1W x18 (fun x19 w =>
 CP Try.prog Fn.patience_Patience_Stop [x10, x13, x16, x19] (fun x20 w =>
 andP (fun w => andP (fun w => trueP w) (fun w => andP (fun w => trueP w) (fun w => andP (fun w => trueP w) (fun w => trueP w) w) w) w) (fun w =>
 j1  w) w) w) w) w) w) w) w) w) w) w) w) w) w) w) (fun w => j1  w) w) w) w) w) w) w) w) w) w) w) w

theorem Q_commit_Commit_leave (a0 : Value) (K : KV) : S_commit_Commit_leave a0 K = P_commit_Commit_leave a0 K := by
  unfold S_commit_Commit_leave P_commit_Commit_leave
  generalize @CP = y_CP
  generalize @addW = y_addW
  generalize @andP = y_andP
  generalize @binIntW = y_binIntW
  generalize @condP = y_condP
  generalize @drewW = y_drewW
  generalize @joinW0 = y_joinW0
  generalize @lenW = y_lenW
  generalize @load1W = y_load1W
  generalize @nilW = y_nilW
  rfl

/-- mem_Mem_do -/
def P_mem_Mem_do (a0 a1 : Value) (K : KV) : World → Prop := fun w =>
 boxW a1 (fun x1 w =>
 newW #[(Value.int .u64 0), (Value.int .u64 0), (Value.bool false), (Value.int .i64 0), (Value.bool false), (Value.int .i64 0)] (fun x2 w =>
 newW #[(Value.int .u64 0), (Value.int .u64 0), (Value.bool false), (Value.int .i64 0), (Value.bool false), (Value.int .i64 0)] (fun x3 w =>
 addW 0 x1 (fun x4 w =>
 load1W x4 (fun x5 w =>
 binIntW .eql x5 (Value.int .i64 1) (fun x6 w =>
 joinW0 (fun  w =>
 loadNW 6 x3 (fun x7 w =>
 storeW 6 x2 x7 (fun _ w =>
 loadNW 6 x2 (fun x9 w =>
 K x9 w) w) w) w) (fun j1 w =>
 condP x6 (fun w => drewW (fun w => nilW a0 (fun x10 w =>
 addW 5 x10 (fun x11 w =>
 load1W x11 (fun x12 w =>
 addW 1 x1 (fun x13 w =>
 load1W x13 (fun x14 w =>
 CP Try.prog Fn.heap_Heap_Load [x12, x14] (fun x15 w =>
 andP (fun w => andP (fun w => trueP w) (fun w => andP (fun w => trueP w) (fun w => trueP w) w) w) (fun w =>
 extractW 0 x15 (fun x16 w =>
 extractW 1 x15 (fun x17 w =>
 addW 0 x3 (fun x18 w =>
 storeW 1 x18 x16 (fun _ w =>
 andP (fun w => trueP w) (fun w =>
 addW 5 x3 (fun x20 w =>
 storeW 1 x20 x17 (fun _ w =>
 andP (fun w => trueP w) (fun w =>
 j1  w) w) w) w) w) w) w) w) w) w) w) w) w) w) w) w) w) (fun w => binIntW .eql x5 (Value.int .i64 2) (fun x22 w =>
 joinW0 (fun  w =>
 j1  w) (fun j2 w =>
 condP x22 (fun w => drewW (fun w => nilW a0 (fun x23 w =>
 addW 5 x23 (fun x24 w =>
 load1W x24 (fun x25 w =>
 addW 1 x1 (fun x26 w =>
 load1W x26 (fun x27 w =>
 addW 3 x1 (fun x28 w =>
 load1W x28 (fun x29 w =>
 CP Try.prog Fn.heap_Heap_Store [x25, x27, x29] (fun x30 w =>
 andP (fun w => andP (fun w => trueP w) (fun w => andP (fun w => trueP w) (fun w => andP (fun w => trueP w) (fun w => trueP w) w) w) w) (fun w =>
 addW 5 x3 (fun x31 w =>
 storeW 1 x31 x30 (fun _ w =>
 andP (fun w => trueP w) (fun w =>
 j2  w) w) w) w) w) w) w) w) w) w) w) w) w) w) (fun w => binIntW .eql x5 (Value.int .i64 3) (fun x33 w =>
 joinW0 (fun  w =>
 j2  w) (fun j3 w =>
 condP x33 (fun w => drewW (fun w => nilW a0 (fun x34 w =>
 addW 6 x34 (fun x35 w =>
 load1W x35 (fun x36 w =>
 addW 1 x1 (fun x37 w =>
 load1W x37 (fun x38 w =>
 CP Try.prog Fn.stripe_Table_Load [x36, x38] (fun x39 w =>
 andP (fun w => andP (fun w => trueP w) (fun w => andP (fun w => trueP w) (fun w => trueP w) w) w) (fun w =>
 extractW 0 x39 (fun x40 w =>
 extractW 1 x39 (fun x41 w =>
 addW 1 x3 (fun x42 w =>
 storeW 3 x42 x40 (fun _ w =>
 andP (fun w => trueP w) (fun w =>
 addW 5 x3 (fun x44 w =>
 storeW 1 x44 x41 (fun _ w =>
 andP (fun w => trueP w) (fun w =>
 j3  w) w) w) w) w) w) w) w) w) w) w) w) w) w) w) w) w) (fun w => binIntW .eql x5 (Value.int .i64 4) (fun x46 w =>
 joinW0 (fun  w =>
 j3  w) (fun j4 w =>
 condP x46 (fun w => drewW (fun w => nilW a0 (fun x47 w =>
 addW 6 x47 (fun x48 w =>
 load1W x48 (fun x49 w =>
 addW 1 x1 (fun x50 w =>
 load1W x50 (fun x51 w =>
 addW 4 x1 (fun x52 w =>
 loadNW 3 x52 (fun x53 w =>
 addW 7 x1 (fun x54 w =>
 loadNW 3 x54 (fun x55 w =>
 CP Try.prog Fn.stripe_Table_Cas [x49, x51, x53, x55] (fun x56 w =>
 andP (fun w => andP (fun w => trueP w) (fun w => andP (fun w => trueP w) (fun w => andP (fun w => trueP w) (fun w => andP (fun w => trueP w) (fun w => trueP w) w) w) w) w) (fun w =>
 extractW 0 x56 (fun x57 w =>
 extractW 1 x56 (fun x58 w =>
 addW 4 x3 (fun x59 w =>
 storeW 1 x59 x57 (fun _ w =>
 andP (fun w => trueP w) (fun w =>
 addW 5 x3 (fun x61 w =>
 storeW 1 x61 x58 (fun _ w =>
 andP (fun w => trueP w) (fun w =>
 j4  w) w) w) w) w) w) w) w) w) w) w) w) w) w) w) w) w) w) w) w) w) (fun w => binIntW .eql x5 (Value.int .i64 5) (fun x63 w =>
 joinW0 (fun  w =>
 j4  w) (fun j5 w =>
 condP x63 (fun w => drewW (fun w => nilW a0 (fun x64 w =>
 addW 6 x64 (fun x65 w =>
 load1W x65 (fun x66 w =>
 addW 1 x1 (fun x67 w =>
 load1W x67 (fun x68 w =>
 addW 7 x1 (fun x69 w =>
 loadNW 3 x69 (fun x70 w =>
 CP Try.prog Fn.stripe_Table_Store [x66, x68, x70] (fun x71 w =>
 andP (fun w => andP (fun w => trueP w) (fun w => andP (fun w => trueP w) (fun w => andP (fun w => trueP w) (fun w => trueP w) w) w) w) (fun w =>
 addW 5 x3 (fun x72 w =>
 storeW 1 x72 x71 (fun _ w =>
 andP (fun w => trueP w) (fun w =>
 j5  w) w) w) w) w) w) w) w) w) w) w) w) w) w) (fun w => binIntW .eql x5 (Value.int .i64 6) (fun x74 w =>
 joinW0 (fun  w =>
 j5  w) (fun j6 w =>
 condP x74 (fun w => nilW a0 (fun x75 w =>
 addW 7 x75 (fun x76 w =>
 load1W x76 (fun x77 w =>
 CP Try.prog Fn.clock_Clock_Load [x77] (fun x78 w =>
 addW 0 x3 (fun x79 w =>
 storeW 1 x79 x78 (fun _ w =>
 j6  w) w) w) w) w) w) w) (fun w => binIntW .eql x5 (Value.int .i64 7) (fun x81 w =>
 joinW0 (fun  w =>
 j6  w) (fun j7 w =>
 condP x81 (fun w => drewW (fun w => nilW a0 (fun x82 w =>
 addW 7 x82 (fun x83 w =>
 load1W x83 (fun x84 w =>
 addW 2 x1 (fun x85 w =>
 load1W x85 (fun x86 w =>
 addW 3 x1 (fun x87 w =>
 load1W x87 (fun x88 w =>
 CP Try.prog Fn.clock_Clock_Cas [x84, x86, x88] (fun x89 w =>
 andP (fun w => andP (fun w => trueP w) (fun w => andP (fun w => trueP w) (fun w => andP (fun w => trueP w) (fun w => trueP w) w) w) w) (fun w =>
 extractW 0 x89 (fun x90 w =>
 extractW 1 x89 (fun x91 w =>
 addW 4 x3 (fun x92 w =>
 storeW 1 x92 x90 (fun _ w =>
 andP (fun w => trueP w) (fun w =>
 addW 5 x3 (fun x94 w =>
 storeW 1 x94 x91 (fun _ w =>
 andP (fun w => trueP w) (fun w =>
 j7  w) w) w) w) w) w) w) w) w) w) w) w) w) w) w) w) w) w) w) (fun w => binIntW .eql x5 (Value.int .i64 8) (fun x96 w =>
 joinW0 (fun  w =>
 j7  w) (fun j8 w =>
 condP x96 (fun w => drewW (fun w => nilW a0 (fun x97 w =>
 addW 8 x97 (fun x98 w =>
 load1W x98 (fun x99 w =>
 addW 1 x1 (fun x100 w =>
 load1W x100 (fun x101 w =>
 CP Try.prog Fn.epoch_Slots_Load [x99, x101] (fun x102 w =>
 andP (fun w => andP (fun w => trueP w) (fun w => andP (fun w => trueP w) (fun w => trueP w) w) w) (fun w =>
 extractW 0 x102 (fun x103 w =>
 extractW 1 x102 (fun x104 w =>
 addW 0 x3 (fun x105 w =>
 storeW 1 x105 x103 (fun _ w =>
 andP (fun w => trueP w) (fun w =>
 addW 5 x3 (fun x107 w =>
 storeW 1 x107 x104 (fun _ w =>
 andP (fun w => trueP w) (fun w =>
 j8  w) w) w) w) w) w) w) w) w) w) w) w) w) w) w) w) w) (fun w => binIntW .eql x5 (Value.int .i64 9) (fun x109 w =>
 joinW0 (fun  w =>
 j8  w) (fun j9 w =>
 condP x109 (fun w => drewW (fun w => nilW a0 (fun x110 w =>
 addW 8 x110 (fun x111 w =>
 load1W x111 (fun x112 w =>
 addW 1 x1 (fun x113 w =>
 load1W x113 (fun x114 w =>
 addW 3 x1 (fun x115 w =>
 load1W x115 (fun x116 w =>
 CP Try.prog Fn.epoch_Slots_Store [x112, x114, x116] (fun x117 w =>
 andP (fun w => andP (fun w => trueP w) (fun w => andP (fun w => trueP w) (fun w => andP (fun w => trueP w) (fun w => trueP w) w) w) w) (fun w =>
 addW 5 x3 (fun x118 w =>
 storeW 1 x118 x117 (fun _ w =>
 andP (fun w => trueP w) (fun w =>
 j9  w) w) w) w) w) w) w) w) w) w) w) w) w) w) (fun w => addW 5 x3 (fun x120 w =>
 storeW 1 x120 (Value.int .i64 1) (fun _ w =>
 j9  w) w) w) w) w) w) w) w) w) w) w) w) w) w) w) w) w) w) w) w) w) w) w) w) w) w) w) w) w) w) w) w) w) w) w

theorem Q_mem_Mem_do (a0 a1 : Value) (K : KV) : S_mem_Mem_do a0 a1 K = P_mem_Mem_do a0 a1 K := by
  unfold S_mem_Mem_do P_mem_Mem_do
  generalize @CP = y_CP
  generalize @addW = y_addW
  generalize @andP = y_andP
  generalize @binIntW = y_binIntW
  generalize @boxW = y_boxW
  generalize @condP = y_condP
  generalize @drewW = y_drewW
  generalize @extractW = y_extractW
  generalize @joinW0 = y_joinW0
  generalize @load1W = y_load1W
  generalize @loadNW = y_loadNW
  generalize @newW = y_newW
  generalize @nilW = y_nilW
  generalize @storeW = y_storeW
  rfl

/-- stripe_Table_All -/
def P_stripe_Table_All (a0 : Value) (K : KV) : World → Prop := fun w =>
 nilW a0 (fun x1 w =>
 addW 0 x1 (fun x2 w =>
 load1W x2 (fun x3 w =>
 CP Try.prog Fn.slices_Clone_api_Lock_api_Lock [x3] (fun x4 w =>
 K x4 w) w) w) w) w

theorem Q_stripe_Table_All (a0 : Value) (K : KV) : S_stripe_Table_All a0 K = P_stripe_Table_All a0 K := by
  unfold S_stripe_Table_All P_stripe_Table_All
  generalize @CP = y_CP
  generalize @addW = y_addW
  generalize @load1W = y_load1W
  generalize @nilW = y_nilW
  rfl

/-- heap_Heap_All -/
def P_heap_Heap_All (a0 : Value) (K : KV) : World → Prop := fun w =>
 nilW a0 (fun x1 w =>
 addW 0 x1 (fun x2 w =>
 load1W x2 (fun x3 w =>
 CP Try.prog Fn.slices_Clone_uint64_uint64 [x3] (fun x4 w =>
 K x4 w) w) w) w) w

theorem Q_heap_Heap_All (a0 : Value) (K : KV) : S_heap_Heap_All a0 K = P_heap_Heap_All a0 K := by
  unfold S_heap_Heap_All P_heap_Heap_All
  generalize @CP = y_CP
  generalize @addW = y_addW
  generalize @load1W = y_load1W
  generalize @nilW = y_nilW
  rfl

/-- clock_Clock_Load -/
def P_clock_Clock_Load (a0 : Value) (K : KV) : World → Prop := fun w =>
 nilW a0 (fun x1 w =>
 addW 0 x1 (fun x2 w =>
 load1W x2 (fun x3 w =>
 K x3 w) w) w) w

theorem Q_clock_Clock_Load (a0 : Value) (K : KV) : S_clock_Clock_Load a0 K = P_clock_Clock_Load a0 K := by
  unfold S_clock_Clock_Load P_clock_Clock_Load
  generalize @addW = y_addW
  generalize @load1W = y_load1W
  generalize @nilW = y_nilW
  rfl

/-- ref7_Place -/
def P_ref7_Place (a0 a1 : Value) (K : KV) : World → Prop := fun w =>
 loopW1 (Value.int .i64 0) (fun J1 x1 w =>
 lenW a0 (fun x2 w =>
 binIntW .lss x1 x2 (fun x3 w =>
 condP x3 (fun w => idxW 2 a0 x1 (fun x4 w =>
 addW 0 x4 (fun x5 w =>
 load1W x5 (fun x6 w =>
 binIntW .eql x6 a1 (fun x7 w =>
 condP x7 (fun w => K x1 w) (fun w => binIntW .add x1 (Value.int .i64 1) (fun x8 w =>
 J1 x8 w) w) w) w) w) w) w) (fun w => K (Value.int .i64 (-1)) w) w) w) w) w

theorem Q_ref7_Place (a0 a1 : Value) (K : KV) : S_ref7_Place a0 a1 K = P_ref7_Place a0 a1 K := by
  unfold S_ref7_Place P_ref7_Place
  generalize @addW = y_addW
  generalize @binIntW = y_binIntW
  generalize @condP = y_condP
  generalize @idxW = y_idxW
  generalize @lenW = y_lenW
  generalize @load1W = y_load1W
  generalize @loopW1 = y_loopW1
  rfl

/-- ref1_Held -/
def P_ref1_Held (a0 a1 a2 : Value) (K : KV) : World → Prop := fun w =>
 binIntW .lss a0 a1 (fun x1 w =>
 condP x1 (fun w => K a1 w) (fun w => binIntW .gtr a0 a2 (fun x2 w =>
 condP x2 (fun w => K a2 w) (fun w => K a0 w) w) w) w) w

theorem Q_ref1_Held (a0 a1 a2 : Value) (K : KV) : S_ref1_Held a0 a1 a2 K = P_ref1_Held a0 a1 a2 K := by
  unfold S_ref1_Held P_ref1_Held
  generalize @binIntW = y_binIntW
  generalize @condP = y_condP
  rfl

/-- patience_Patience_By -/
def P_patience_Patience_By (a0 : Value) (K : KV) : World → Prop := fun w =>
 nilW a0 (fun x1 w =>
 addW 3 x1 (fun x2 w =>
 load1W x2 (fun x3 w =>
 K x3 w) w) w) w

theorem Q_patience_Patience_By (a0 : Value) (K : KV) : S_patience_Patience_By a0 K = P_patience_Patience_By a0 K := by
  unfold S_patience_Patience_By P_patience_Patience_By
  generalize @addW = y_addW
  generalize @load1W = y_load1W
  generalize @nilW = y_nilW
  rfl

/-- patience_Patience_Err -/
def P_patience_Patience_Err (a0 : Value) (K : KV) : World → Prop := fun w =>
 nilW a0 (fun x1 w =>
 addW 4 x1 (fun x2 w =>
 load1W x2 (fun x3 w =>
 K x3 w) w) w) w

theorem Q_patience_Patience_Err (a0 : Value) (K : KV) : S_patience_Patience_Err a0 K = P_patience_Patience_Err a0 K := by
  unfold S_patience_Patience_Err P_patience_Patience_Err
  generalize @addW = y_addW
  generalize @load1W = y_load1W
  generalize @nilW = y_nilW
  rfl

/-- view_New -/
def P_view_New (a0 a1 : Value) (K : KV) : World → Prop := fun w =>
 drewW (fun w => minW a0 [(Value.int .i64 256)] (fun x1 w =>
 maxW (Value.int .i64 32) [x1] (fun x2 w =>
 andP (fun w => makeSliceW 16 [(Value.int .u64 0), (Value.bool false)] x2 x2 (fun x3 w =>
 andP (fun w => trueP w) (fun w =>
 CP Try.prog Fn.levels_New [a1] (fun x4 w =>
 andP (fun w => trueP w) (fun w =>
 buildW [(Value.slice none 0 0), (Value.slice none 0 0), (Value.pointer none), (Value.int .i64 0)] [(0, 1, x3), (2, 1, x4)] (fun x5 w =>
 boxW x5 (fun x6 w =>
 andP (fun w => trueP w) (fun w =>
 K x6 w) w) w) w) w) w) w) w) (fun w => CP Try.prog Fn.levels_New [a1] (fun x7 w =>
 andP (fun w => trueP w) (fun w =>
 makeSliceW 16 [(Value.int .u64 0), (Value.bool false)] x2 x2 (fun x8 w =>
 andP (fun w => trueP w) (fun w =>
 buildW [(Value.slice none 0 0), (Value.slice none 0 0), (Value.pointer none), (Value.int .i64 0)] [(0, 1, x8), (2, 1, x7)] (fun x9 w =>
 boxW x9 (fun x10 w =>
 andP (fun w => trueP w) (fun w =>
 K x10 w) w) w) w) w) w) w) w) w) w) w) w

theorem Q_view_New (a0 a1 : Value) (K : KV) : S_view_New a0 a1 K = P_view_New a0 a1 K := by
  unfold S_view_New P_view_New
  generalize @CP = y_CP
  generalize @andP = y_andP
  generalize @boxW = y_boxW
  generalize @buildW = y_buildW
  generalize @drewW = y_drewW
  generalize @makeSliceW = y_makeSliceW
  generalize @maxW = y_maxW
  generalize @minW = y_minW
  rfl

/-- view_View_Size -/
def P_view_View_Size (a0 : Value) (K : KV) : World → Prop := fun w =>
 nilW a0 (fun x1 w =>
 addW 0 x1 (fun x2 w =>
 load1W x2 (fun x3 w =>
 lenW x3 (fun x4 w =>
 K x4 w) w) w) w) w

theorem Q_view_View_Size (a0 : Value) (K : KV) : S_view_View_Size a0 K = P_view_View_Size a0 K := by
  unfold S_view_View_Size P_view_View_Size
  generalize @addW = y_addW
  generalize @lenW = y_lenW
  generalize @load1W = y_load1W
  generalize @nilW = y_nilW
  rfl

/-- view_View_Know -/
def P_view_View_Know (a0 a1 a2 : Value) (K : KV) : World → Prop := fun w =>
 CP Try.prog Fn.view_View_is [a0, a1] (fun x1 w =>
 notW x1 (fun x2 w =>
 condP x2 (fun w => K (Value.int .i64 2) w) (fun w => nilW a0 (fun x3 w =>
 addW 0 x3 (fun x4 w =>
 load1W x4 (fun x5 w =>
 idxW 2 x5 a1 (fun x6 w =>
 loadNW 2 x6 (fun x7 w =>
 newW #[(Value.int .u64 0), (Value.bool false)] (fun x8 w =>
 storeW 2 x8 x7 (fun _ w =>
 addW 1 x8 (fun x10 w =>
 load1W x10 (fun x11 w =>
 condP x11 (fun w => addW 0 x8 (fun x12 w =>
 load1W x12 (fun x13 w =>
 binIntW .neq x13 a2 (fun x14 w =>
 condP x14 (fun w => K (Value.int .i64 14) w) (fun w => K (Value.int .i64 0) w) w) w) w) w) (fun w => nilW a0 (fun x15 w =>
 addW 0 x15 (fun x16 w =>
 load1W x16 (fun x17 w =>
 buildW [(Value.int .u64 0), (Value.bool false)] [(0, 1, a2), (1, 1, (Value.bool true))] (fun x18 w =>
 idxW 2 x17 a1 (fun x19 w =>
 storeW 2 x19 x18 (fun _ w =>
 nilW a0 (fun x21 w =>
 addW 1 x21 (fun x22 w =>
 load1W x22 (fun x23 w =>
 buildSliceW [(Value.int .i64 0)] 1 [(0, 1, a1)] (fun x24 w =>
 appendW 1 8 x23 x24 (fun x25 w =>
 nilW a0 (fun x26 w =>
 addW 1 x26 (fun x27 w =>
 storeW 1 x27 x25 (fun _ w =>
 K (Value.int .i64 0) w) w) w) w) w) w) w) w) w) w) w) w) w) w) w) w) w) w) w) w) w) w) w) w) w) w) w) w

theorem Q_view_View_Know (a0 a1 a2 : Value) (K : KV) : S_view_View_Know a0 a1 a2 K = P_view_View_Know a0 a1 a2 K := by
  unfold S_view_View_Know P_view_View_Know
  generalize @CP = y_CP
  generalize @addW = y_addW
  generalize @appendW = y_appendW
  generalize @binIntW = y_binIntW
  generalize @buildSliceW = y_buildSliceW
  generalize @buildW = y_buildW
  generalize @condP = y_condP
  generalize @idxW = y_idxW
  generalize @load1W = y_load1W
  generalize @loadNW = y_loadNW
  generalize @newW = y_newW
  generalize @nilW = y_nilW
  generalize @notW = y_notW
  generalize @storeW = y_storeW
  rfl

/-- draft_Do -/
def P_draft_Do (a0 a1 a2 : Value) (K : KV) : World → Prop := fun w =>
 binIntW .lss a1 (Value.int .i64 6) (fun x1 w =>
 gW x1 false (fun K w => K a1 w) (fun x2 w =>
 gW x1 false (fun K w => binIntW .geq x2 (Value.int .i64 14) K w) (fun x3 w =>
 pickW x1 (Value.bool true) x3 (fun x4 w =>
 condP x4 (fun w => K (Value.int .i64 2) w) (fun w => CP Try.prog Fn.draft_of [a0] (fun x5 w =>
 buildW [(Value.pointer none), (Value.int .i64 0), (Value.int .i64 0)] [(0, 1, x5)] (fun x6 w =>
 boxW x6 (fun x7 w =>
 dynW Try.prog a2 [x7] (fun x8 w =>
 nilW x7 (fun x9 w =>
 addW 1 x9 (fun x10 w =>
 load1W x10 (fun x11 w =>
 binIntW .eql x11 (Value.int .i64 11) (fun x12 w =>
 condP x12 (fun w => nilW x7 (fun x13 w =>
 addW 0 x13 (fun x14 w =>
 load1W x14 (fun x15 w =>
 CP Try.prog Fn.view_View_Need [x15] (fun x16 w =>
 CP Try.prog Fn.view_View_Read [a0, x16] (fun x17 w =>
 extractW 0 x17 (fun x18 w =>
 extractW 1 x17 (fun x19 w =>
 K x19 w) w) w) w) w) w) w) w) (fun w => nilW x7 (fun x20 w =>
 addW 1 x20 (fun x21 w =>
 load1W x21 (fun x22 w =>
 binIntW .neq x22 (Value.int .i64 0) (fun x23 w =>
 condP x23 (fun w => nilW x7 (fun x24 w =>
 addW 1 x24 (fun x25 w =>
 load1W x25 (fun x26 w =>
 K x26 w) w) w) w) (fun w => nilW x7 (fun x27 w =>
 addW 0 x27 (fun x28 w =>
 load1W x28 (fun x29 w =>
 CP Try.prog Fn.view_View_Cells [x29] (fun x30 w =>
 CP Try.prog Fn.view_View_Take [a0, x30] (fun x31 w =>
 binIntW .neq x31 (Value.int .i64 0) (fun x32 w =>
 condP x32 (fun w => K x31 w) (fun w => nilW x7 (fun x33 w =>
 addW 0 x33 (fun x34 w =>
 load1W x34 (fun x35 w =>
 CP Try.prog Fn.view_View_Frees [x35] (fun x36 w =>
 lenW x36 (fun x37 w =>
 loopW1 (Value.int .i64 0) (fun J1 x38 w =>
 binIntW .lss x38 x37 (fun x39 w =>
 condP x39 (fun w => idxW 1 x36 x38 (fun x40 w =>
 load1W x40 (fun x41 w =>
 CP Try.prog Fn.view_View_Free [a0, x41] (fun x42 w =>
 binIntW .add x38 (Value.int .i64 1) (fun x43 w =>
 J1 x43 w) w) w) w) w) (fun w => K (Value.int .i64 0) w) w) w) w) w) w) w) w) w) w) w) w) w) w) w) w) w) w) w) w) w) w) w) w) w) w) w) w) w) w) w) w) w) w) w

theorem Q_draft_Do (a0 a1 a2 : Value) (K : KV) : S_draft_Do a0 a1 a2 K = P_draft_Do a0 a1 a2 K := by
  unfold S_draft_Do P_draft_Do
  generalize @CP = y_CP
  generalize @addW = y_addW
  generalize @binIntW = y_binIntW
  generalize @boxW = y_boxW
  generalize @buildW = y_buildW
  generalize @condP = y_condP
  generalize @dynW = y_dynW
  generalize @extractW = y_extractW
  generalize @gW = y_gW
  generalize @idxW = y_idxW
  generalize @lenW = y_lenW
  generalize @load1W = y_load1W
  generalize @loopW1 = y_loopW1
  generalize @nilW = y_nilW
  generalize @pickW = y_pickW
  rfl

/-- table_Put_1 -/
def P_table_Put_1 (a0 a1 a2 a3 a4 : Value) (K : KV) : World → Prop := fun w =>
 load1W a1 (fun x1 w =>
 CP Try.prog Fn.table_open [a0, x1] (fun x2 w =>
 CP Try.prog Fn.draft_Draft_OK [a0] (fun x3 w =>
 gW x3 true (fun K w => K x2 w) (fun x4 w =>
 gW x3 true (fun K w => nilW x4 K w) (fun x5 w =>
 gW x3 true (fun K w => addW 1 x5 K w) (fun x6 w =>
 gW x3 true (fun K w => load1W x6 K w) (fun x7 w =>
 gW x3 true (fun K w => binIntW .eql x7 (Value.int .i64 0) K w) (fun x8 w =>
 pickW x3 x8 (Value.bool false) (fun x9 w =>
 joinW1 (fun x10 w =>
 CP Try.prog Fn.draft_Draft_OK [a0] (fun x11 w =>
 notW x11 (fun x12 w =>
 condP x12 (fun w => K (Value.tuple #[]) w) (fun w => load1W a2 (fun x13 w =>
 CP Try.prog Fn.table_table_seek [x10, x13] (fun x14 w =>
 extractW 0 x14 (fun x15 w =>
 extractW 1 x14 (fun x16 w =>
 binIntW .neq x16 (Value.int .i64 0) (fun x17 w =>
 condP x17 (fun w => binIntW .add x16 (Value.int .i64 1) (fun x18 w =>
 load1W a3 (fun x19 w =>
 CP Try.prog Fn.draft_Draft_Write [a0, x18, x19] (fun x20 w =>
 K (Value.tuple #[]) w) w) w) w) (fun w => drewW (fun w => CP Try.prog Fn.draft_Draft_OK [a0] (fun x21 w =>
 andP (fun w => trueP w) (fun w =>
 gW x21 true (fun K w => K x10 w) (fun x22 w =>
 gW x21 true (fun K w => nilW x22 K w) (fun x23 w =>
 gW x21 true (fun K w => addW 4 x23 K w) (fun x24 w =>
 gW x21 true (fun K w => load1W x24 K w) (fun x25 w =>
 gW x21 true (fun K w => K x10 w) (fun x26 w =>
 gW x21 true (fun K w => nilW x26 K w) (fun x27 w =>
 gW x21 true (fun K w => addW 2 x27 K w) (fun x28 w =>
 gW x21 true (fun K w => load1W x28 K w) (fun x29 w =>
 gW x21 true (fun K w => convW .u64 x29 K w) (fun x30 w =>
 gW x21 true (fun K w => binIntW .geq x25 x30 K w) (fun x31 w =>
 pickW x21 x31 (Value.bool false) (fun x32 w =>
 gW x32 true (fun K w => K x10 w) (fun x33 w =>
 gW x32 true (fun K w => nilW x33 K w) (fun x34 w =>
 gW x32 true (fun K w => addW 2 x34 K w) (fun x35 w =>
 gW x32 true (fun K w => load1W x35 K w) (fun x36 w =>
 gW x32 true (fun K w => binIntW .lss x36 (Value.int .i64 16) K w) (fun x37 w =>
 pickW x32 x37 (Value.bool false) (fun x38 w =>
 joinW1 (fun x39 w =>
 CP Try.prog Fn.draft_Draft_Alloc [a0, (Value.int .i64 3)] (fun x40 w =>
 binIntW .add x40 (Value.int .i64 0) (fun x41 w =>
 load1W a2 (fun x42 w =>
 CP Try.prog Fn.draft_Draft_Write [a0, x41, x42] (fun x43 w =>
 binIntW .add x40 (Value.int .i64 1) (fun x44 w =>
 load1W a3 (fun x45 w =>
 CP Try.prog Fn.draft_Draft_Write [a0, x44, x45] (fun x46 w =>
 binIntW .add x40 (Value.int .i64 2) (fun x47 w =>
 CP Try.prog Fn.draft_Draft_Point [a0, x47, (Value.int .i64 0)] (fun x48 w =>
 CP Try.prog Fn.draft_Draft_Point [a0, x39, x40] (fun x49 w =>
 drewW (fun w => nilW x10 (fun x50 w =>
 addW 1 x50 (fun x51 w =>
 load1W x51 (fun x52 w =>
 binIntW .add x52 (Value.int .i64 0) (fun x53 w =>
 nilW x10 (fun x54 w =>
 addW 4 x54 (fun x55 w =>
 load1W x55 (fun x56 w =>
 binIntW .add x56 (Value.int .u64 1) (fun x57 w =>
 CP Try.prog Fn.draft_Draft_Write [a0, x53, x57] (fun x58 w =>
 andP (fun w => andP (fun w => trueP w) (fun w => andP (fun w => trueP w) (fun w => trueP w) w) w) (fun w =>
 storeW 1 a4 (Value.bool true) (fun _ w =>
 K (Value.tuple #[]) w) w) w) w) w) w) w) w) w) w) w) w) w) w) w) w) w) w) w) w) w) w) w) (fun j2 w =>
 condP x38 (fun w => CP Try.prog Fn.table_table_grow [x10] (fun x60 w =>
 load1W a2 (fun x61 w =>
 CP Try.prog Fn.table_table_seek [x10, x61] (fun x62 w =>
 extractW 0 x62 (fun x63 w =>
 extractW 1 x62 (fun x64 w =>
 j2 x63 w) w) w) w) w) w) (fun w => j2 x15 w) w) w) w) w) w) w) w) w) w) w) w) w) w) w) w) w) w) w) w) w) w) w) w) w) w) w) w) w) w) w) w) (fun j1 w =>
 condP x9 (fun w => load1W a1 (fun x65 w =>
 CP Try.prog Fn.table_made [a0, x65] (fun x66 w =>
 j1 x66 w) w) w) (fun w => j1 x2 w) w) w) w) w) w) w) w) w) w) w) w

theorem Q_table_Put_1 (a0 a1 a2 a3 a4 : Value) (K : KV) : S_table_Put_1 a0 a1 a2 a3 a4 K = P_table_Put_1 a0 a1 a2 a3 a4 K := by
  unfold S_table_Put_1 P_table_Put_1
  generalize @CP = y_CP
  generalize @addW = y_addW
  generalize @andP = y_andP
  generalize @binIntW = y_binIntW
  generalize @condP = y_condP
  generalize @convW = y_convW
  generalize @drewW = y_drewW
  generalize @extractW = y_extractW
  generalize @gW = y_gW
  generalize @joinW1 = y_joinW1
  generalize @load1W = y_load1W
  generalize @nilW = y_nilW
  generalize @notW = y_notW
  generalize @pickW = y_pickW
  generalize @storeW = y_storeW
  rfl

/-- table_open -/
def P_table_open (a0 a1 : Value) (K : KV) : World → Prop := fun w =>
 CP Try.prog Fn.draft_Draft_Place [a0, a1] (fun x1 w =>
 buildW [(Value.pointer none), (Value.int .i64 0), (Value.int .i64 0), (Value.int .i64 0), (Value.int .u64 0)] [(0, 1, a0), (1, 1, x1)] (fun x2 w =>
 boxW x2 (fun x3 w =>
 nilW x3 (fun x4 w =>
 addW 1 x4 (fun x5 w =>
 load1W x5 (fun x6 w =>
 binIntW .eql x6 (Value.int .i64 0) (fun x7 w =>
 condP x7 (fun w => K x3 w) (fun w => nilW x3 (fun x8 w =>
 addW 1 x8 (fun x9 w =>
 load1W x9 (fun x10 w =>
 binIntW .add x10 (Value.int .i64 0) (fun x11 w =>
 CP Try.prog Fn.draft_Draft_Read [a0, x11] (fun x12 w =>
 nilW x3 (fun x13 w =>
 addW 4 x13 (fun x14 w =>
 storeW 1 x14 x12 (fun _ w =>
 nilW x3 (fun x16 w =>
 addW 1 x16 (fun x17 w =>
 load1W x17 (fun x18 w =>
 binIntW .add x18 (Value.int .i64 1) (fun x19 w =>
 CP Try.prog Fn.draft_Draft_Read [a0, x19] (fun x20 w =>
 binIntW .lss x20 (Value.int .u64 2) (fun x21 w =>
 gW x21 false (fun K w => K x20 w) (fun x22 w =>
 gW x21 false (fun K w => binIntW .gtr x22 (Value.int .u64 16) K w) (fun x23 w =>
 pickW x21 (Value.bool true) x23 (fun x24 w =>
 gW x24 false (fun K w => K x20 w) (fun x25 w =>
 gW x24 false (fun K w => K x20 w) (fun x26 w =>
 gW x24 false (fun K w => binIntW .sub x26 (Value.int .u64 1) K w) (fun x27 w =>
 gW x24 false (fun K w => binIntW .and x25 x27 K w) (fun x28 w =>
 gW x24 false (fun K w => binIntW .neq x28 (Value.int .u64 0) K w) (fun x29 w =>
 pickW x24 (Value.bool true) x29 (fun x30 w =>
 joinW1 (fun x31 w =>
 convW .i64 x31 (fun x32 w =>
 nilW x3 (fun x33 w =>
 addW 1 x33 (fun x34 w =>
 load1W x34 (fun x35 w =>
 binIntW .add x35 (Value.int .i64 2) (fun x36 w =>
 CP Try.prog Fn.draft_Draft_Place [a0, x36] (fun x37 w =>
 nilW x3 (fun x38 w =>
 addW 2 x38 (fun x39 w =>
 storeW 1 x39 x32 (fun _ w =>
 nilW x3 (fun x41 w =>
 addW 3 x41 (fun x42 w =>
 storeW 1 x42 x37 (fun _ w =>
 K x3 w) w) w) w) w) w) w) w) w) w) w) w) w) (fun j1 w =>
 condP x30 (fun w => CP Try.prog Fn.draft_Draft_Fail [a0, (Value.int .i64 2)] (fun x44 w =>
 j1 (Value.int .u64 2) w) w) (fun w => j1 x20 w) w) w) w) w) w) w) w) w) w) w) w) w) w) w) w) w) w) w) w) w) w) w) w) w) w) w) w) w) w) w) w) w) w

theorem Q_table_open (a0 a1 : Value) (K : KV) : S_table_open a0 a1 K = P_table_open a0 a1 K := by
  unfold S_table_open P_table_open
  generalize @CP = y_CP
  generalize @addW = y_addW
  generalize @binIntW = y_binIntW
  generalize @boxW = y_boxW
  generalize @buildW = y_buildW
  generalize @condP = y_condP
  generalize @convW = y_convW
  generalize @gW = y_gW
  generalize @joinW1 = y_joinW1
  generalize @load1W = y_load1W
  generalize @nilW = y_nilW
  generalize @pickW = y_pickW
  generalize @storeW = y_storeW
  rfl

/-- draft_Draft_OK -/
def P_draft_Draft_OK (a0 : Value) (K : KV) : World → Prop := fun w =>
 nilW a0 (fun x1 w =>
 addW 1 x1 (fun x2 w =>
 load1W x2 (fun x3 w =>
 binIntW .eql x3 (Value.int .i64 0) (fun x4 w =>
 K x4 w) w) w) w) w

theorem Q_draft_Draft_OK (a0 : Value) (K : KV) : S_draft_Draft_OK a0 K = P_draft_Draft_OK a0 K := by
  unfold S_draft_Draft_OK P_draft_Draft_OK
  generalize @addW = y_addW
  generalize @binIntW = y_binIntW
  generalize @load1W = y_load1W
  generalize @nilW = y_nilW
  rfl

/-- table_made -/
def P_table_made (a0 a1 : Value) (K : KV) : World → Prop := fun w =>
 CP Try.prog Fn.draft_Draft_Alloc [a0, (Value.int .i64 3)] (fun x1 w =>
 CP Try.prog Fn.draft_Draft_Alloc [a0, (Value.int .i64 2)] (fun x2 w =>
 buildW [(Value.pointer none), (Value.int .i64 0), (Value.int .i64 0), (Value.int .i64 0), (Value.int .u64 0)] [(0, 1, a0), (1, 1, x1), (2, 1, (Value.int .i64 2)), (3, 1, x2)] (fun x3 w =>
 boxW x3 (fun x4 w =>
 loopW1 (Value.int .i64 0) (fun J1 x5 w =>
 binIntW .lss x5 (Value.int .i64 2) (fun x6 w =>
 condP x6 (fun w => nilW x4 (fun x7 w =>
 addW 3 x7 (fun x8 w =>
 load1W x8 (fun x9 w =>
 binIntW .add x9 x5 (fun x10 w =>
 CP Try.prog Fn.draft_Draft_Point [a0, x10, (Value.int .i64 0)] (fun x11 w =>
 binIntW .add x5 (Value.int .i64 1) (fun x12 w =>
 J1 x12 w) w) w) w) w) w) w) (fun w => nilW x4 (fun x13 w =>
 addW 1 x13 (fun x14 w =>
 load1W x14 (fun x15 w =>
 binIntW .add x15 (Value.int .i64 0) (fun x16 w =>
 CP Try.prog Fn.draft_Draft_Point [a0, x16, (Value.int .i64 0)] (fun x17 w =>
 nilW x4 (fun x18 w =>
 addW 1 x18 (fun x19 w =>
 load1W x19 (fun x20 w =>
 binIntW .add x20 (Value.int .i64 1) (fun x21 w =>
 CP Try.prog Fn.draft_Draft_Point [a0, x21, (Value.int .i64 2)] (fun x22 w =>
 drewW (fun w => nilW x4 (fun x23 w =>
 addW 1 x23 (fun x24 w =>
 load1W x24 (fun x25 w =>
 binIntW .add x25 (Value.int .i64 2) (fun x26 w =>
 nilW x4 (fun x27 w =>
 addW 3 x27 (fun x28 w =>
 load1W x28 (fun x29 w =>
 CP Try.prog Fn.draft_Draft_Point [a0, x26, x29] (fun x30 w =>
 andP (fun w => andP (fun w => trueP w) (fun w => andP (fun w => trueP w) (fun w => trueP w) w) w) (fun w =>
 nilW x4 (fun x31 w =>
 addW 1 x31 (fun x32 w =>
 load1W x32 (fun x33 w =>
 CP Try.prog Fn.draft_Draft_Point [a0, a1, x33] (fun x34 w =>
 K x4 w) w) w) w) w) w) w) w) w) w) w) w) w) w) w) w) w) w) w) w) w) w) w) w) w) w) w) w) w) w) w) w

theorem Q_table_made (a0 a1 : Value) (K : KV) : S_table_made a0 a1 K = P_table_made a0 a1 K := by
  unfold S_table_made P_table_made
  generalize @CP = y_CP
  generalize @addW = y_addW
  generalize @andP = y_andP
  generalize @binIntW = y_binIntW
  generalize @boxW = y_boxW
  generalize @buildW = y_buildW
  generalize @condP = y_condP
  generalize @drewW = y_drewW
  generalize @load1W = y_load1W
  generalize @loopW1 = y_loopW1
  generalize @nilW = y_nilW
  rfl

/-- table_table_seek -/
def P_table_table_seek (a0 a1 : Value) (K : KV) : World → Prop := fun w =>
 drewW (fun w => nilW a0 (fun x1 w =>
 addW 3 x1 (fun x2 w =>
 load1W x2 (fun x3 w =>
 nilW a0 (fun x4 w =>
 addW 2 x4 (fun x5 w =>
 load1W x5 (fun x6 w =>
 CP Try.prog Fn.table_chain [a1, x6] (fun x7 w =>
 andP (fun w => andP (fun w => trueP w) (fun w => andP (fun w => load1W x2 (fun v w => eqP v x3 w) w) (fun w => trueP w) w) w) (fun w =>
 binIntW .add x3 x7 (fun x8 w =>
 loopW1 x8 (fun J1 x9 w =>
 nilW a0 (fun x10 w =>
 addW 0 x10 (fun x11 w =>
 load1W x11 (fun x12 w =>
 CP Try.prog Fn.draft_Draft_Step [x12] (fun x13 w =>
 condP x13 (fun w => nilW a0 (fun x14 w =>
 addW 0 x14 (fun x15 w =>
 load1W x15 (fun x16 w =>
 CP Try.prog Fn.draft_Draft_Place [x16, x9] (fun x17 w =>
 binIntW .eql x17 (Value.int .i64 0) (fun x18 w =>
 gW x18 false (fun K w => K a0 w) (fun x19 w =>
 gW x18 false (fun K w => nilW x19 K w) (fun x20 w =>
 gW x18 false (fun K w => addW 0 x20 K w) (fun x21 w =>
 gW x18 false (fun K w => load1W x21 K w) (fun x22 w =>
 gW x18 false (fun K w => K x17 w) (fun x23 w =>
 gW x18 false (fun K w => binIntW .add x23 (Value.int .i64 0) K w) (fun x24 w =>
 gW x18 false (fun K w => CP Try.prog Fn.draft_Draft_Read [x22, x24] K w) (fun x25 w =>
 gW x18 false (fun K w => K a1 w) (fun x26 w =>
 gW x18 false (fun K w => binIntW .eql x25 x26 K w) (fun x27 w =>
 pickW x18 (Value.bool true) x27 (fun x28 w =>
 condP x28 (fun w => K (Value.tuple #[x9, x17]) w) (fun w => binIntW .add x17 (Value.int .i64 2) (fun x29 w =>
 J1 x29 w) w) w) w) w) w) w) w) w) w) w) w) w) w) w) w) w) w) (fun w => K (Value.tuple #[x9, (Value.int .i64 0)]) w) w) w) w) w) w) w) w) w) w) w) w) w) w) w) w) w

theorem Q_table_table_seek (a0 a1 : Value) (K : KV) : S_table_table_seek a0 a1 K = P_table_table_seek a0 a1 K := by
  unfold S_table_table_seek P_table_table_seek
  generalize @CP = y_CP
  generalize @addW = y_addW
  generalize @andP = y_andP
  generalize @binIntW = y_binIntW
  generalize @condP = y_condP
  generalize @drewW = y_drewW
  generalize @eqP = y_eqP
  generalize @gW = y_gW
  generalize @load1W = y_load1W
  generalize @loopW1 = y_loopW1
  generalize @nilW = y_nilW
  generalize @pickW = y_pickW
  rfl

/-- draft_Draft_Write -/
def P_draft_Draft_Write (a0 a1 a2 : Value) (K : KV) : World → Prop := fun w =>
 CP Try.prog Fn.draft_Draft_OK [a0] (fun x1 w =>
 joinW0 (fun  w =>
 K (Value.tuple #[]) w) (fun j1 w =>
 condP x1 (fun w => nilW a0 (fun x2 w =>
 addW 0 x2 (fun x3 w =>
 load1W x3 (fun x4 w =>
 CP Try.prog Fn.view_View_Write [x4, a1, a2] (fun x5 w =>
 CP Try.prog Fn.draft_Draft_Fail [a0, x5] (fun x6 w =>
 j1  w) w) w) w) w) w) (fun w => j1  w) w) w) w

theorem Q_draft_Draft_Write (a0 a1 a2 : Value) (K : KV) : S_draft_Draft_Write a0 a1 a2 K = P_draft_Draft_Write a0 a1 a2 K := by
  unfold S_draft_Draft_Write P_draft_Draft_Write
  generalize @CP = y_CP
  generalize @addW = y_addW
  generalize @condP = y_condP
  generalize @joinW0 = y_joinW0
  generalize @load1W = y_load1W
  generalize @nilW = y_nilW
  rfl

/-- table_table_grow -/
def P_table_table_grow (a0 : Value) (K : KV) : World → Prop := fun w =>
 boxW a0 (fun x1 w =>
 load1W x1 (fun x2 w =>
 nilW x2 (fun x3 w =>
 addW 2 x3 (fun x4 w =>
 load1W x4 (fun x5 w =>
 binIntW .mul (Value.int .i64 2) x5 (fun x6 w =>
 newW #[(Value.int .i64 0)] (fun x7 w =>
 storeW 1 x7 x6 (fun _ w =>
 load1W x7 (fun x9 w =>
 makeSliceW 8 [(Value.int .i64 0)] x9 x9 (fun x10 w =>
 newW #[(Value.slice none 0 0)] (fun x11 w =>
 storeW 1 x11 x10 (fun _ w =>
 drewW (fun w => load1W x1 (fun x13 w =>
 nilW x13 (fun x14 w =>
 addW 0 x14 (fun x15 w =>
 load1W x15 (fun x16 w =>
 load1W x7 (fun x17 w =>
 CP Try.prog Fn.draft_Draft_Alloc [x16, x17] (fun x18 w =>
 andP (fun w => andP (fun w => trueP w) (fun w => andP (fun w => trueP w) (fun w => andP (fun w => trueP w) (fun w => trueP w) w) w) w) (fun w =>
 load1W x1 (fun x19 w =>
 CP Try.prog Fn.table_table_each [x19, (Value.func (.func Fn.table_table_grow_1) #[] #[x1, x7, x11])] (fun x20 w =>
 load1W x11 (fun x21 w =>
 lenW x21 (fun x22 w =>
 loopW1 (Value.int .i64 0) (fun J1 x23 w =>
 binIntW .lss x23 x22 (fun x24 w =>
 condP x24 (fun w => idxW 1 x21 x23 (fun x25 w =>
 load1W x25 (fun x26 w =>
 load1W x1 (fun x27 w =>
 nilW x27 (fun x28 w =>
 addW 0 x28 (fun x29 w =>
 load1W x29 (fun x30 w =>
 binIntW .add x18 x23 (fun x31 w =>
 CP Try.prog Fn.draft_Draft_Point [x30, x31, x26] (fun x32 w =>
 binIntW .add x23 (Value.int .i64 1) (fun x33 w =>
 J1 x33 w) w) w) w) w) w) w) w) w) w) (fun w => drewW (fun w => load1W x1 (fun x34 w =>
 nilW x34 (fun x35 w =>
 addW 0 x35 (fun x36 w =>
 load1W x36 (fun x37 w =>
 load1W x1 (fun x38 w =>
 nilW x38 (fun x39 w =>
 addW 3 x39 (fun x40 w =>
 load1W x40 (fun x41 w =>
 CP Try.prog Fn.draft_Draft_Free [x37, x41] (fun x42 w =>
 andP (fun w => andP (fun w => trueP w) (fun w => andP (fun w => trueP w) (fun w => andP (fun w => trueP w) (fun w => andP (fun w => trueP w) (fun w => trueP w) w) w) w) w) (fun w =>
 drewW (fun w => load1W x1 (fun x43 w =>
 load1W x1 (fun x44 w =>
 load1W x7 (fun x45 w =>
 nilW x43 (fun x46 w =>
 addW 2 x46 (fun x47 w =>
 storeW 1 x47 x45 (fun _ w =>
 andP (fun w => andP (fun w => trueP w) (fun w => andP (fun w => load1W x1 (fun v w => eqP v x44 w) w) (fun w => andP (fun w => trueP w) (fun w => trueP w) w) w) w) (fun w =>
 nilW x44 (fun x49 w =>
 addW 3 x49 (fun x50 w =>
 storeW 1 x50 x18 (fun _ w =>
 andP (fun w => andP (fun w => trueP w) (fun w => trueP w) w) (fun w =>
 drewW (fun w => load1W x1 (fun x52 w =>
 nilW x52 (fun x53 w =>
 addW 0 x53 (fun x54 w =>
 load1W x54 (fun x55 w =>
 load1W x1 (fun x56 w =>
 nilW x56 (fun x57 w =>
 addW 1 x57 (fun x58 w =>
 load1W x58 (fun x59 w =>
 binIntW .add x59 (Value.int .i64 1) (fun x60 w =>
 load1W x7 (fun x61 w =>
 CP Try.prog Fn.draft_Draft_Point [x55, x60, x61] (fun x62 w =>
 andP (fun w => andP (fun w => trueP w) (fun w => andP (fun w => trueP w) (fun w => andP (fun w => trueP w) (fun w => andP (fun w => trueP w) (fun w => andP (fun w => trueP w) (fun w => trueP w) w) w) w) w) w) (fun w =>
 drewW (fun w => load1W x1 (fun x63 w =>
 nilW x63 (fun x64 w =>
 addW 0 x64 (fun x65 w =>
 load1W x65 (fun x66 w =>
 load1W x1 (fun x67 w =>
 nilW x67 (fun x68 w =>
 addW 1 x68 (fun x69 w =>
 load1W x69 (fun x70 w =>
 binIntW .add x70 (Value.int .i64 2) (fun x71 w =>
 CP Try.prog Fn.draft_Draft_Point [x66, x71, x18] (fun x72 w =>
 andP (fun w => andP (fun w => trueP w) (fun w => andP (fun w => trueP w) (fun w => andP (fun w => trueP w) (fun w => andP (fun w => trueP w) (fun w => trueP w) w) w) w) w) (fun w =>
 K (Value.tuple #[]) w) w) w) w) w) w) w) w) w) w) w) w) w) w) w) w) w) w) w) w) w) w) w) w) w) w) w) w) w) w) w) w) w) w) w) w) w) w) w) w) w) w) w) w) w) w) w) w) w) w) w) w) w) w) w) w) w) w) w) w) w) w) w) w) w) w) w) w) w) w) w) w) w) w) w) w

theorem Q_table_table_grow (a0 : Value) (K : KV) : S_table_table_grow a0 K = P_table_table_grow a0 K := by
  unfold S_table_table_grow P_table_table_grow
  generalize @CP = y_CP
  generalize @addW = y_addW
  generalize @andP = y_andP
  generalize @binIntW = y_binIntW
  generalize @boxW = y_boxW
  generalize @condP = y_condP
  generalize @drewW = y_drewW
  generalize @eqP = y_eqP
  generalize @idxW = y_idxW
  generalize @lenW = y_lenW
  generalize @load1W = y_load1W
  generalize @loopW1 = y_loopW1
  generalize @makeSliceW = y_makeSliceW
  generalize @newW = y_newW
  generalize @nilW = y_nilW
  generalize @storeW = y_storeW
  rfl

/-- draft_Draft_Alloc -/
def P_draft_Draft_Alloc (a0 a1 : Value) (K : KV) : World → Prop := fun w =>
 CP Try.prog Fn.draft_Draft_OK [a0] (fun x1 w =>
 notW x1 (fun x2 w =>
 condP x2 (fun w => K (Value.int .i64 0) w) (fun w => nilW a0 (fun x3 w =>
 addW 0 x3 (fun x4 w =>
 load1W x4 (fun x5 w =>
 CP Try.prog Fn.arena_Alloc [x5, a1] (fun x6 w =>
 extractW 0 x6 (fun x7 w =>
 extractW 1 x6 (fun x8 w =>
 CP Try.prog Fn.draft_Draft_Fail [a0, x8] (fun x9 w =>
 K x7 w) w) w) w) w) w) w) w) w) w) w

theorem Q_draft_Draft_Alloc (a0 a1 : Value) (K : KV) : S_draft_Draft_Alloc a0 a1 K = P_draft_Draft_Alloc a0 a1 K := by
  unfold S_draft_Draft_Alloc P_draft_Draft_Alloc
  generalize @CP = y_CP
  generalize @addW = y_addW
  generalize @condP = y_condP
  generalize @extractW = y_extractW
  generalize @load1W = y_load1W
  generalize @nilW = y_nilW
  generalize @notW = y_notW
  rfl

/-- draft_Draft_Point -/
def P_draft_Draft_Point (a0 a1 a2 : Value) (K : KV) : World → Prop := fun w =>
 convW .u64 a2 (fun x1 w =>
 CP Try.prog Fn.draft_Draft_Write [a0, a1, x1] (fun x2 w =>
 K (Value.tuple #[]) w) w) w

theorem Q_draft_Draft_Point (a0 a1 a2 : Value) (K : KV) : S_draft_Draft_Point a0 a1 a2 K = P_draft_Draft_Point a0 a1 a2 K := by
  unfold S_draft_Draft_Point P_draft_Draft_Point
  generalize @CP = y_CP
  generalize @convW = y_convW
  rfl

/-- table_Get_1 -/
def P_table_Get_1 (a0 a1 a2 a3 a4 : Value) (K : KV) : World → Prop := fun w =>
 load1W a1 (fun x1 w =>
 CP Try.prog Fn.table_open [a0, x1] (fun x2 w =>
 CP Try.prog Fn.draft_Draft_OK [a0] (fun x3 w =>
 notW x3 (fun x4 w =>
 gW x4 false (fun K w => K x2 w) (fun x5 w =>
 gW x4 false (fun K w => nilW x5 K w) (fun x6 w =>
 gW x4 false (fun K w => addW 1 x6 K w) (fun x7 w =>
 gW x4 false (fun K w => load1W x7 K w) (fun x8 w =>
 gW x4 false (fun K w => binIntW .eql x8 (Value.int .i64 0) K w) (fun x9 w =>
 pickW x4 (Value.bool true) x9 (fun x10 w =>
 condP x10 (fun w => K (Value.tuple #[]) w) (fun w => load1W a2 (fun x11 w =>
 CP Try.prog Fn.table_table_seek [x2, x11] (fun x12 w =>
 extractW 0 x12 (fun x13 w =>
 extractW 1 x12 (fun x14 w =>
 binIntW .neq x14 (Value.int .i64 0) (fun x15 w =>
 joinW0 (fun  w =>
 K (Value.tuple #[]) w) (fun j1 w =>
 condP x15 (fun w => binIntW .add x14 (Value.int .i64 1) (fun x16 w =>
 CP Try.prog Fn.draft_Draft_Read [a0, x16] (fun x17 w =>
 storeW 1 a3 x17 (fun _ w =>
 storeW 1 a4 (Value.bool true) (fun _ w =>
 j1  w) w) w) w) w) (fun w => j1  w) w) w) w) w) w) w) w) w) w) w) w) w) w) w) w) w) w) w

theorem Q_table_Get_1 (a0 a1 a2 a3 a4 : Value) (K : KV) : S_table_Get_1 a0 a1 a2 a3 a4 K = P_table_Get_1 a0 a1 a2 a3 a4 K := by
  unfold S_table_Get_1 P_table_Get_1
  generalize @CP = y_CP
  generalize @addW = y_addW
  generalize @binIntW = y_binIntW
  generalize @condP = y_condP
  generalize @extractW = y_extractW
  generalize @gW = y_gW
  generalize @joinW0 = y_joinW0
  generalize @load1W = y_load1W
  generalize @nilW = y_nilW
  generalize @notW = y_notW
  generalize @pickW = y_pickW
  generalize @storeW = y_storeW
  rfl

/-- draft_Draft_Read -/
def P_draft_Draft_Read (a0 a1 : Value) (K : KV) : World → Prop := fun w =>
 CP Try.prog Fn.draft_Draft_OK [a0] (fun x1 w =>
 notW x1 (fun x2 w =>
 condP x2 (fun w => K (Value.int .u64 0) w) (fun w => nilW a0 (fun x3 w =>
 addW 0 x3 (fun x4 w =>
 load1W x4 (fun x5 w =>
 CP Try.prog Fn.view_View_Read [x5, a1] (fun x6 w =>
 extractW 0 x6 (fun x7 w =>
 extractW 1 x6 (fun x8 w =>
 CP Try.prog Fn.draft_Draft_Fail [a0, x8] (fun x9 w =>
 K x7 w) w) w) w) w) w) w) w) w) w) w

theorem Q_draft_Draft_Read (a0 a1 : Value) (K : KV) : S_draft_Draft_Read a0 a1 K = P_draft_Draft_Read a0 a1 K := by
  unfold S_draft_Draft_Read P_draft_Draft_Read
  generalize @CP = y_CP
  generalize @addW = y_addW
  generalize @condP = y_condP
  generalize @extractW = y_extractW
  generalize @load1W = y_load1W
  generalize @nilW = y_nilW
  generalize @notW = y_notW
  rfl

/-- table_All_1 -/
def P_table_All_1 (a0 a1 a2 : Value) (K : KV) : World → Prop := fun w =>
 boxW a0 (fun x1 w =>
 load1W x1 (fun x2 w =>
 load1W a1 (fun x3 w =>
 CP Try.prog Fn.table_open [x2, x3] (fun x4 w =>
 load1W x1 (fun x5 w =>
 CP Try.prog Fn.draft_Draft_OK [x5] (fun x6 w =>
 notW x6 (fun x7 w =>
 gW x7 false (fun K w => K x4 w) (fun x8 w =>
 gW x7 false (fun K w => nilW x8 K w) (fun x9 w =>
 gW x7 false (fun K w => addW 1 x9 K w) (fun x10 w =>
 gW x7 false (fun K w => load1W x10 K w) (fun x11 w =>
 gW x7 false (fun K w => binIntW .eql x11 (Value.int .i64 0) K w) (fun x12 w =>
 pickW x7 (Value.bool true) x12 (fun x13 w =>
 condP x13 (fun w => K (Value.tuple #[]) w) (fun w => CP Try.prog Fn.table_table_each [x4, (Value.func (.func Fn.table_All_1_1) #[] #[a2, x1])] (fun x14 w =>
 K (Value.tuple #[]) w) w) w) w) w) w) w) w) w) w) w) w) w) w) w) w

theorem Q_table_All_1 (a0 a1 a2 : Value) (K : KV) : S_table_All_1 a0 a1 a2 K = P_table_All_1 a0 a1 a2 K := by
  unfold S_table_All_1 P_table_All_1
  generalize @CP = y_CP
  generalize @addW = y_addW
  generalize @binIntW = y_binIntW
  generalize @boxW = y_boxW
  generalize @condP = y_condP
  generalize @gW = y_gW
  generalize @load1W = y_load1W
  generalize @nilW = y_nilW
  generalize @notW = y_notW
  generalize @pickW = y_pickW
  rfl

/-- table_table_each -/
def P_table_table_each (a0 a1 : Value) (K : KV) : World → Prop := fun w =>
 nilW a0 (fun x1 w =>
 addW 2 x1 (fun x2 w =>
 load1W x2 (fun x3 w =>
 loopW1 (Value.int .i64 0) (fun J1 x4 w =>
 binIntW .lss x4 x3 (fun x5 w =>
 condP x5 (fun w => drewW (fun w => nilW a0 (fun x6 w =>
 addW 0 x6 (fun x7 w =>
 load1W x7 (fun x8 w =>
 nilW a0 (fun x9 w =>
 addW 3 x9 (fun x10 w =>
 load1W x10 (fun x11 w =>
 binIntW .add x11 x4 (fun x12 w =>
 CP Try.prog Fn.draft_Draft_Place [x8, x12] (fun x13 w =>
 andP (fun w => andP (fun w => trueP w) (fun w => andP (fun w => trueP w) (fun w => trueP w) w) w) (fun w =>
 loopW1 x13 (fun J2 x14 w =>
 binIntW .neq x14 (Value.int .i64 0) (fun x15 w =>
 gW x15 true (fun K w => K a0 w) (fun x16 w =>
 gW x15 true (fun K w => nilW x16 K w) (fun x17 w =>
 gW x15 true (fun K w => addW 0 x17 K w) (fun x18 w =>
 gW x15 true (fun K w => load1W x18 K w) (fun x19 w =>
 gW x15 true (fun K w => CP Try.prog Fn.draft_Draft_Step [x19] K w) (fun x20 w =>
 pickW x15 x20 (Value.bool false) (fun x21 w =>
 condP x21 (fun w => nilW a0 (fun x22 w =>
 addW 0 x22 (fun x23 w =>
 load1W x23 (fun x24 w =>
 binIntW .add x14 (Value.int .i64 2) (fun x25 w =>
 CP Try.prog Fn.draft_Draft_Place [x24, x25] (fun x26 w =>
 dynW Try.prog a1 [x14] (fun x27 w =>
 J2 x26 w) w) w) w) w) w) w) (fun w => binIntW .add x4 (Value.int .i64 1) (fun x28 w =>
 J1 x28 w) w) w) w) w) w) w) w) w) w) w) w) w) w) w) w) w) w) w) w) w) (fun w => K (Value.tuple #[]) w) w) w) w) w) w) w

theorem Q_table_table_each (a0 a1 : Value) (K : KV) : S_table_table_each a0 a1 K = P_table_table_each a0 a1 K := by
  unfold S_table_table_each P_table_table_each
  generalize @CP = y_CP
  generalize @addW = y_addW
  generalize @andP = y_andP
  generalize @binIntW = y_binIntW
  generalize @condP = y_condP
  generalize @drewW = y_drewW
  generalize @dynW = y_dynW
  generalize @gW = y_gW
  generalize @load1W = y_load1W
  generalize @loopW1 = y_loopW1
  generalize @nilW = y_nilW
  generalize @pickW = y_pickW
  rfl

/-- table_All_1_1 -/
def P_table_All_1_1 (a0 a1 a2 : Value) (K : KV) : World → Prop := fun w =>
 drewW (fun w => load1W a1 (fun x1 w =>
 load1W a2 (fun x2 w =>
 binIntW .add a0 (Value.int .i64 0) (fun x3 w =>
 load1W a2 (fun x4 w =>
 binIntW .add a0 (Value.int .i64 1) (fun x5 w =>
 CP Try.prog Fn.draft_Draft_Read [x2, x3] (fun x6 w =>
 andP (fun w => andP (fun w => load1W a2 (fun v w => eqP v x4 w) w) (fun w => andP (fun w => trueP w) (fun w => andP (fun w => load1W a1 (fun v w => eqP v x1 w) w) (fun w => trueP w) w) w) w) (fun w =>
 CP Try.prog Fn.draft_Draft_Read [x4, x5] (fun x7 w =>
 andP (fun w => andP (fun w => trueP w) (fun w => andP (fun w => load1W a1 (fun v w => eqP v x1 w) w) (fun w => trueP w) w) w) (fun w =>
 buildW [(Value.int .u64 0), (Value.int .u64 0)] [(0, 1, x6), (1, 1, x7)] (fun x8 w =>
 buildSliceW [(Value.int .u64 0), (Value.int .u64 0)] 1 [(0, 2, x8)] (fun x9 w =>
 andP (fun w => andP (fun w => load1W a1 (fun v w => eqP v x1 w) w) (fun w => trueP w) w) (fun w =>
 appendW 2 16 x1 x9 (fun x10 w =>
 andP (fun w => andP (fun w => trueP w) (fun w => trueP w) w) (fun w =>
 storeW 1 a1 x10 (fun _ w =>
 andP (fun w => trueP w) (fun w =>
 K (Value.tuple #[]) w) w) w) w) w) w) w) w) w) w) w) w) w) w) w) w) w) w

theorem Q_table_All_1_1 (a0 a1 a2 : Value) (K : KV) : S_table_All_1_1 a0 a1 a2 K = P_table_All_1_1 a0 a1 a2 K := by
  unfold S_table_All_1_1 P_table_All_1_1
  generalize @CP = y_CP
  generalize @andP = y_andP
  generalize @appendW = y_appendW
  generalize @binIntW = y_binIntW
  generalize @buildSliceW = y_buildSliceW
  generalize @buildW = y_buildW
  generalize @drewW = y_drewW
  generalize @eqP = y_eqP
  generalize @load1W = y_load1W
  generalize @storeW = y_storeW
  rfl

/-- slices_SortFunc_api_Pair_api_Pair -/
def P_slices_SortFunc_api_Pair_api_Pair (a0 a1 : Value) (K : KV) : World → Prop := fun w =>
 lenW a0 (fun x1 w =>
 convW .u64 x1 (fun x2 w =>
 CP Try.prog Fn.math_bits_Len [x2] (fun x3 w =>
 CP Try.prog Fn.slices_pdqsortCmpFunc_api_Pair [a0, (Value.int .i64 0), x1, x3, a1] (fun x4 w =>
 K (Value.tuple #[]) w) w) w) w) w

theorem Q_slices_SortFunc_api_Pair_api_Pair (a0 a1 : Value) (K : KV) : S_slices_SortFunc_api_Pair_api_Pair a0 a1 K = P_slices_SortFunc_api_Pair_api_Pair a0 a1 K := by
  unfold S_slices_SortFunc_api_Pair_api_Pair P_slices_SortFunc_api_Pair_api_Pair
  generalize @CP = y_CP
  generalize @convW = y_convW
  generalize @lenW = y_lenW
  rfl

/-- table_All_2 -/
def P_table_All_2 (a0 a1 : Value) (K : KV) : World → Prop := fun w =>
 boxW a0 (fun x1 w =>
 boxW a1 (fun x2 w =>
 addW 0 x1 (fun x3 w =>
 load1W x3 (fun x4 w =>
 addW 0 x2 (fun x5 w =>
 load1W x5 (fun x6 w =>
 CP Try.prog Fn.cmp_Compare_uint64 [x4, x6] (fun x7 w =>
 K x7 w) w) w) w) w) w) w) w

theorem Q_table_All_2 (a0 a1 : Value) (K : KV) : S_table_All_2 a0 a1 K = P_table_All_2 a0 a1 K := by
  unfold S_table_All_2 P_table_All_2
  generalize @CP = y_CP
  generalize @addW = y_addW
  generalize @boxW = y_boxW
  generalize @load1W = y_load1W
  rfl

/-- cmp_Compare_uint64 -/
def P_cmp_Compare_uint64 (a0 a1 : Value) (K : KV) : World → Prop := fun w =>
 CP Try.prog Fn.cmp_isNaN_uint64 [a0] (fun x1 w =>
 CP Try.prog Fn.cmp_isNaN_uint64 [a1] (fun x2 w =>
 condP x1 (fun w => condP x2 (fun w => K (Value.int .i64 0) w) (fun w => K (Value.int .i64 (-1)) w) w) (fun w => condP x2 (fun w => K (Value.int .i64 1) w) (fun w => binIntW .lss a0 a1 (fun x3 w =>
 condP x3 (fun w => K (Value.int .i64 (-1)) w) (fun w => binIntW .gtr a0 a1 (fun x4 w =>
 condP x4 (fun w => K (Value.int .i64 1) w) (fun w => K (Value.int .i64 0) w) w) w) w) w) w) w) w) w

theorem Q_cmp_Compare_uint64 (a0 a1 : Value) (K : KV) : S_cmp_Compare_uint64 a0 a1 K = P_cmp_Compare_uint64 a0 a1 K := by
  unfold S_cmp_Compare_uint64 P_cmp_Compare_uint64
  generalize @CP = y_CP
  generalize @binIntW = y_binIntW
  generalize @condP = y_condP
  rfl

/-- stripe_near -/
def P_stripe_near (a0 a1 : Value) (K : KV) : World → Prop := fun w =>
 minW a0 [a1] (fun x1 w =>
 maxW (Value.int .i64 1) [x1] (fun x2 w =>
 K x2 w) w) w

theorem Q_stripe_near (a0 a1 : Value) (K : KV) : S_stripe_near a0 a1 K = P_stripe_near a0 a1 K := by
  unfold S_stripe_near P_stripe_near
  generalize @maxW = y_maxW
  generalize @minW = y_minW
  rfl

/-- stripe_Of -/
def P_stripe_Of (a0 a1 a2 : Value) (K : KV) : World → Prop := fun w =>
 binIntW .lss a0 (Value.int .i64 0) (fun x1 w =>
 condP x1 (fun w => K (Value.int .i64 (-1)) w) (fun w => drewW (fun w => CP Try.prog Fn.stripe_near [a2, (Value.int .i64 16)] (fun x2 w =>
 andP (fun w => trueP w) (fun w =>
 binIntW .quo a0 x2 (fun x3 w =>
 CP Try.prog Fn.stripe_near [a1, (Value.int .i64 16)] (fun x4 w =>
 andP (fun w => trueP w) (fun w =>
 binIntW .rem x3 x4 (fun x5 w =>
 K x5 w) w) w) w) w) w) w) w) w) w

theorem Q_stripe_Of (a0 a1 a2 : Value) (K : KV) : S_stripe_Of a0 a1 a2 K = P_stripe_Of a0 a1 a2 K := by
  unfold S_stripe_Of P_stripe_Of
  generalize @CP = y_CP
  generalize @andP = y_andP
  generalize @binIntW = y_binIntW
  generalize @condP = y_condP
  generalize @drewW = y_drewW
  rfl

/-- slices_Sort_int_int -/
def P_slices_Sort_int_int (a0 : Value) (K : KV) : World → Prop := fun w =>
 lenW a0 (fun x1 w =>
 convW .u64 x1 (fun x2 w =>
 CP Try.prog Fn.math_bits_Len [x2] (fun x3 w =>
 CP Try.prog Fn.slices_pdqsortOrdered_int [a0, (Value.int .i64 0), x1, x3] (fun x4 w =>
 K (Value.tuple #[]) w) w) w) w) w

theorem Q_slices_Sort_int_int (a0 : Value) (K : KV) : S_slices_Sort_int_int a0 K = P_slices_Sort_int_int a0 K := by
  unfold S_slices_Sort_int_int P_slices_Sort_int_int
  generalize @CP = y_CP
  generalize @convW = y_convW
  generalize @lenW = y_lenW
  rfl

/-- patience_Patience_Stop -/
def P_patience_Patience_Stop (a0 a1 a2 a3 : Value) (K : KV) : World → Prop := fun w =>
 nilW a0 (fun x1 w =>
 addW 2 x1 (fun x2 w =>
 storeW 1 x2 a1 (fun _ w =>
 nilW a0 (fun x4 w =>
 addW 4 x4 (fun x5 w =>
 storeW 1 x5 a2 (fun _ w =>
 nilW a0 (fun x7 w =>
 addW 3 x7 (fun x8 w =>
 storeW 1 x8 a3 (fun _ w =>
 K (Value.tuple #[]) w) w) w) w) w) w) w) w) w) w

theorem Q_patience_Patience_Stop (a0 a1 a2 a3 : Value) (K : KV) : S_patience_Patience_Stop a0 a1 a2 a3 K = P_patience_Patience_Stop a0 a1 a2 a3 K := by
  unfold S_patience_Patience_Stop P_patience_Patience_Stop
  generalize @addW = y_addW
  generalize @nilW = y_nilW
  generalize @storeW = y_storeW
  rfl

/-- commit_Commit_held -/
def P_commit_Commit_held (a0 a1 : Value) (K : KV) : World → Prop := fun w =>
 boxW a1 (fun x1 w =>
 drewW (fun w => nilW a0 (fun x2 w =>
 addW 0 x2 (fun x3 w =>
 loadNW 3 x1 (fun x4 w =>
 CP Try.prog Fn.patience_Patience_Waits [x3, x4] (fun x5 w =>
 andP (fun w => andP (fun w => trueP w) (fun w => trueP w) w) (fun w =>
 notW x5 (fun x6 w =>
 joinW0 (fun  w =>
 K (Value.tuple #[]) w) (fun j1 w =>
 condP x6 (fun w => addW 2 x1 (fun x7 w =>
 load1W x7 (fun x8 w =>
 CP Try.prog Fn.commit_Commit_stop [a0, (Value.int .i64 5), (Value.int .i64 0), x8] (fun x9 w =>
 j1  w) w) w) w) (fun w => j1  w) w) w) w) w) w) w) w) w) w) w

theorem Q_commit_Commit_held (a0 a1 : Value) (K : KV) : S_commit_Commit_held a0 a1 K = P_commit_Commit_held a0 a1 K := by
  unfold S_commit_Commit_held P_commit_Commit_held
  generalize @CP = y_CP
  generalize @addW = y_addW
  generalize @andP = y_andP
  generalize @boxW = y_boxW
  generalize @condP = y_condP
  generalize @drewW = y_drewW
  generalize @joinW0 = y_joinW0
  generalize @load1W = y_load1W
  generalize @loadNW = y_loadNW
  generalize @nilW = y_nilW
  generalize @notW = y_notW
  rfl

/-- commit_Commit_stop -/
def P_commit_Commit_stop (a0 a1 a2 a3 : Value) (K : KV) : World → Prop := fun w =>
 nilW a0 (fun x1 w =>
 addW 18 x1 (fun x2 w =>
 storeW 1 x2 a1 (fun _ w =>
 nilW a0 (fun x4 w =>
 addW 20 x4 (fun x5 w =>
 storeW 1 x5 a2 (fun _ w =>
 nilW a0 (fun x7 w =>
 addW 19 x7 (fun x8 w =>
 storeW 1 x8 a3 (fun _ w =>
 nilW a0 (fun x10 w =>
 addW 12 x10 (fun x11 w =>
 storeW 1 x11 (Value.int .i64 0) (fun _ w =>
 nilW a0 (fun x13 w =>
 addW 11 x13 (fun x14 w =>
 storeW 1 x14 (Value.int .i64 7) (fun _ w =>
 CP Try.prog Fn.commit_Commit_leave [a0] (fun x16 w =>
 K (Value.tuple #[]) w) w) w) w) w) w) w) w) w) w) w) w) w) w) w) w) w

theorem Q_commit_Commit_stop (a0 a1 a2 a3 : Value) (K : KV) : S_commit_Commit_stop a0 a1 a2 a3 K = P_commit_Commit_stop a0 a1 a2 a3 K := by
  unfold S_commit_Commit_stop P_commit_Commit_stop
  generalize @CP = y_CP
  generalize @addW = y_addW
  generalize @nilW = y_nilW
  generalize @storeW = y_storeW
  rfl

/-- commit_Commit_begin -/
def P_commit_Commit_begin (a0 : Value) (K : KV) : World → Prop := fun w =>
 nilW a0 (fun x1 w =>
 addW 17 x1 (fun x2 w =>
 storeW 1 x2 (Value.bool true) (fun _ w =>
 nilW a0 (fun x4 w =>
 addW 12 x4 (fun x5 w =>
 storeW 1 x5 (Value.int .i64 0) (fun _ w =>
 nilW a0 (fun x7 w =>
 addW 11 x7 (fun x8 w =>
 storeW 1 x8 (Value.int .i64 5) (fun _ w =>
 CP Try.prog Fn.commit_Commit_write [a0] (fun x10 w =>
 K (Value.tuple #[]) w) w) w) w) w) w) w) w) w) w) w

theorem Q_commit_Commit_begin (a0 : Value) (K : KV) : S_commit_Commit_begin a0 K = P_commit_Commit_begin a0 K := by
  unfold S_commit_Commit_begin P_commit_Commit_begin
  generalize @CP = y_CP
  generalize @addW = y_addW
  generalize @nilW = y_nilW
  generalize @storeW = y_storeW
  rfl

/-- commit_Commit_prove -/
def P_commit_Commit_prove (a0 : Value) (K : KV) : World → Prop := fun w =>
 nilW a0 (fun x1 w =>
 addW 11 x1 (fun x2 w =>
 storeW 1 x2 (Value.int .i64 4) (fun _ w =>
 loopW0  (fun J1  w =>
 drewW (fun w => nilW a0 (fun x4 w =>
 addW 12 x4 (fun x5 w =>
 load1W x5 (fun x6 w =>
 nilW a0 (fun x7 w =>
 addW 7 x7 (fun x8 w =>
 load1W x8 (fun x9 w =>
 lenW x9 (fun x10 w =>
 binIntW .lss x6 x10 (fun x11 w =>
 condP x11 (fun w => drewW (fun w => nilW a0 (fun x12 w =>
 addW 9 x12 (fun x13 w =>
 load1W x13 (fun x14 w =>
 nilW a0 (fun x15 w =>
 addW 7 x15 (fun x16 w =>
 load1W x16 (fun x17 w =>
 nilW a0 (fun x18 w =>
 addW 12 x18 (fun x19 w =>
 load1W x19 (fun x20 w =>
 idxW 2 x17 x20 (fun x21 w =>
 addW 0 x21 (fun x22 w =>
 load1W x22 (fun x23 w =>
 CP Try.prog Fn.slices_BinarySearch_int_int [x14, x23] (fun x24 w =>
 andP (fun w => andP (fun w => trueP w) (fun w => andP (fun w => trueP w) (fun w => andP (fun w => trueP w) (fun w => andP (fun w => trueP w) (fun w => trueP w) w) w) w) w) (fun w =>
 extractW 0 x24 (fun x25 w =>
 extractW 1 x24 (fun x26 w =>
 notW x26 (fun x27 w =>
 condP x27 (fun w => K (Value.tuple #[]) w) (fun w => drewW (fun w => nilW a0 (fun x28 w =>
 addW 10 x28 (fun x29 w =>
 load1W x29 (fun x30 w =>
 idxW 3 x30 x25 (fun x31 w =>
 addW 0 x31 (fun x32 w =>
 load1W x32 (fun x33 w =>
 nilW a0 (fun x34 w =>
 addW 7 x34 (fun x35 w =>
 load1W x35 (fun x36 w =>
 nilW a0 (fun x37 w =>
 addW 12 x37 (fun x38 w =>
 load1W x38 (fun x39 w =>
 idxW 2 x36 x39 (fun x40 w =>
 addW 1 x40 (fun x41 w =>
 load1W x41 (fun x42 w =>
 binIntW .neq x33 x42 (fun x43 w =>
 condP x43 (fun w => CP Try.prog Fn.commit_Commit_stop [a0, (Value.int .i64 5), (Value.int .i64 0), (Value.int .i64 (-1))] (fun x44 w =>
 K (Value.tuple #[]) w) w) (fun w => nilW a0 (fun x45 w =>
 addW 12 x45 (fun x46 w =>
 load1W x46 (fun x47 w =>
 binIntW .add x47 (Value.int .i64 1) (fun x48 w =>
 nilW a0 (fun x49 w =>
 addW 12 x49 (fun x50 w =>
 storeW 1 x50 x48 (fun _ w =>
 J1  w) w) w) w) w) w) w) w) w) w) w) w) w) w) w) w) w) w) w) w) w) w) w) w) w) w) w) w) w) w) w) w) w) w) w) w) w) w) w) w) w) w) w) w) w) (fun w => CP Try.prog Fn.commit_Commit_begin [a0] (fun x52 w =>
 K (Value.tuple #[]) w) w) w) w) w) w) w) w) w) w) w) w) w) w) w) w

theorem Q_commit_Commit_prove (a0 : Value) (K : KV) : S_commit_Commit_prove a0 K = P_commit_Commit_prove a0 K := by
  unfold S_commit_Commit_prove P_commit_Commit_prove
  generalize @CP = y_CP
  generalize @addW = y_addW
  generalize @andP = y_andP
  generalize @binIntW = y_binIntW
  generalize @condP = y_condP
  generalize @drewW = y_drewW
  generalize @extractW = y_extractW
  generalize @idxW = y_idxW
  generalize @lenW = y_lenW
  generalize @load1W = y_load1W
  generalize @loopW0 = y_loopW0
  generalize @nilW = y_nilW
  generalize @notW = y_notW
  generalize @storeW = y_storeW
  rfl

/-- heap_Heap_Load -/
def P_heap_Heap_Load (a0 a1 : Value) (K : KV) : World → Prop := fun w =>
 CP Try.prog Fn.heap_Heap_is [a0, a1] (fun x1 w =>
 notW x1 (fun x2 w =>
 condP x2 (fun w => K (Value.tuple #[(Value.int .u64 0), (Value.int .i64 2)]) w) (fun w => nilW a0 (fun x3 w =>
 addW 0 x3 (fun x4 w =>
 load1W x4 (fun x5 w =>
 idxW 1 x5 a1 (fun x6 w =>
 load1W x6 (fun x7 w =>
 K (Value.tuple #[x7, (Value.int .i64 0)]) w) w) w) w) w) w) w) w) w

theorem Q_heap_Heap_Load (a0 a1 : Value) (K : KV) : S_heap_Heap_Load a0 a1 K = P_heap_Heap_Load a0 a1 K := by
  unfold S_heap_Heap_Load P_heap_Heap_Load
  generalize @CP = y_CP
  generalize @addW = y_addW
  generalize @condP = y_condP
  generalize @idxW = y_idxW
  generalize @load1W = y_load1W
  generalize @nilW = y_nilW
  generalize @notW = y_notW
  rfl

/-- heap_Heap_Store -/
def P_heap_Heap_Store (a0 a1 a2 : Value) (K : KV) : World → Prop := fun w =>
 CP Try.prog Fn.heap_Heap_is [a0, a1] (fun x1 w =>
 notW x1 (fun x2 w =>
 condP x2 (fun w => K (Value.int .i64 2) w) (fun w => nilW a0 (fun x3 w =>
 addW 0 x3 (fun x4 w =>
 load1W x4 (fun x5 w =>
 idxW 1 x5 a1 (fun x6 w =>
 storeW 1 x6 a2 (fun _ w =>
 K (Value.int .i64 0) w) w) w) w) w) w) w) w) w

theorem Q_heap_Heap_Store (a0 a1 a2 : Value) (K : KV) : S_heap_Heap_Store a0 a1 a2 K = P_heap_Heap_Store a0 a1 a2 K := by
  unfold S_heap_Heap_Store P_heap_Heap_Store
  generalize @CP = y_CP
  generalize @addW = y_addW
  generalize @condP = y_condP
  generalize @idxW = y_idxW
  generalize @load1W = y_load1W
  generalize @nilW = y_nilW
  generalize @notW = y_notW
  generalize @storeW = y_storeW
  rfl

/-- stripe_Table_Load -/
def P_stripe_Table_Load (a0 a1 : Value) (K : KV) : World → Prop := fun w =>
 newW #[(Value.int .u64 0), (Value.bool false), (Value.int .i64 0)] (fun x1 w =>
 CP Try.prog Fn.stripe_Table_is [a0, a1] (fun x2 w =>
 notW x2 (fun x3 w =>
 condP x3 (fun w => buildW [(Value.int .u64 0), (Value.bool false), (Value.int .i64 0)] [] (fun x4 w =>
 storeW 3 x1 x4 (fun _ w =>
 loadNW 3 x1 (fun x6 w =>
 K (Value.tuple #[x6, (Value.int .i64 2)]) w) w) w) w) (fun w => nilW a0 (fun x7 w =>
 addW 0 x7 (fun x8 w =>
 load1W x8 (fun x9 w =>
 idxW 3 x9 a1 (fun x10 w =>
 loadNW 3 x10 (fun x11 w =>
 storeW 3 x1 x11 (fun _ w =>
 loadNW 3 x1 (fun x13 w =>
 K (Value.tuple #[x13, (Value.int .i64 0)]) w) w) w) w) w) w) w) w) w) w) w) w

theorem Q_stripe_Table_Load (a0 a1 : Value) (K : KV) : S_stripe_Table_Load a0 a1 K = P_stripe_Table_Load a0 a1 K := by
  unfold S_stripe_Table_Load P_stripe_Table_Load
  generalize @CP = y_CP
  generalize @addW = y_addW
  generalize @buildW = y_buildW
  generalize @condP = y_condP
  generalize @idxW = y_idxW
  generalize @load1W = y_load1W
  generalize @loadNW = y_loadNW
  generalize @newW = y_newW
  generalize @nilW = y_nilW
  generalize @notW = y_notW
  generalize @storeW = y_storeW
  rfl

/-- stripe_Table_Cas -/
def P_stripe_Table_Cas (a0 a1 a2 a3 : Value) (K : KV) : World → Prop := fun w =>
 boxW a2 (fun x1 w =>
 boxW a3 (fun x2 w =>
 loadNW 3 x2 (fun x3 w =>
 CP Try.prog Fn.stripe_Table_may [a0, a1, x3] (fun x4 w =>
 binIntW .neq x4 (Value.int .i64 0) (fun x5 w =>
 condP x5 (fun w => K (Value.tuple #[(Value.bool false), x4]) w) (fun w => drewW (fun w => nilW a0 (fun x6 w =>
 addW 0 x6 (fun x7 w =>
 load1W x7 (fun x8 w =>
 idxW 3 x8 a1 (fun x9 w =>
 loadNW 3 x9 (fun x10 w =>
 loadNW 3 x1 (fun x11 w =>
 eqAggW [.i .u64, .b, .i .i64] .neq x10 x11 (fun x12 w =>
 condP x12 (fun w => K (Value.tuple #[(Value.bool false), (Value.int .i64 0)]) w) (fun w => drewW (fun w => nilW a0 (fun x13 w =>
 addW 0 x13 (fun x14 w =>
 load1W x14 (fun x15 w =>
 loadNW 3 x2 (fun x16 w =>
 idxW 3 x15 a1 (fun x17 w =>
 storeW 3 x17 x16 (fun _ w =>
 andP (fun w => andP (fun w => trueP w) (fun w => andP (fun w => trueP w) (fun w => trueP w) w) w) (fun w =>
 K (Value.tuple #[(Value.bool true), (Value.int .i64 0)]) w) w) w) w) w) w) w) w) w) w) w) w) w) w) w) w) w) w) w) w) w) w) w) w

theorem Q_stripe_Table_Cas (a0 a1 a2 a3 : Value) (K : KV) : S_stripe_Table_Cas a0 a1 a2 a3 K = P_stripe_Table_Cas a0 a1 a2 a3 K := by
  unfold S_stripe_Table_Cas P_stripe_Table_Cas
  generalize @CP = y_CP
  generalize @addW = y_addW
  generalize @andP = y_andP
  generalize @binIntW = y_binIntW
  generalize @boxW = y_boxW
  generalize @condP = y_condP
  generalize @drewW = y_drewW
  generalize @eqAggW = y_eqAggW
  generalize @idxW = y_idxW
  generalize @load1W = y_load1W
  generalize @loadNW = y_loadNW
  generalize @nilW = y_nilW
  generalize @storeW = y_storeW
  rfl

/-- stripe_Table_Store -/
def P_stripe_Table_Store (a0 a1 a2 : Value) (K : KV) : World → Prop := fun w =>
 boxW a2 (fun x1 w =>
 loadNW 3 x1 (fun x2 w =>
 CP Try.prog Fn.stripe_Table_may [a0, a1, x2] (fun x3 w =>
 binIntW .eql x3 (Value.int .i64 0) (fun x4 w =>
 joinW0 (fun  w =>
 K x3 w) (fun j1 w =>
 condP x4 (fun w => drewW (fun w => nilW a0 (fun x5 w =>
 addW 0 x5 (fun x6 w =>
 load1W x6 (fun x7 w =>
 loadNW 3 x1 (fun x8 w =>
 idxW 3 x7 a1 (fun x9 w =>
 storeW 3 x9 x8 (fun _ w =>
 andP (fun w => andP (fun w => trueP w) (fun w => andP (fun w => trueP w) (fun w => trueP w) w) w) (fun w =>
 j1  w) w) w) w) w) w) w) w) w) (fun w => j1  w) w) w) w) w) w) w

theorem Q_stripe_Table_Store (a0 a1 a2 : Value) (K : KV) : S_stripe_Table_Store a0 a1 a2 K = P_stripe_Table_Store a0 a1 a2 K := by
  unfold S_stripe_Table_Store P_stripe_Table_Store
  generalize @CP = y_CP
  generalize @addW = y_addW
  generalize @andP = y_andP
  generalize @binIntW = y_binIntW
  generalize @boxW = y_boxW
  generalize @condP = y_condP
  generalize @drewW = y_drewW
  generalize @idxW = y_idxW
  generalize @joinW0 = y_joinW0
  generalize @load1W = y_load1W
  generalize @loadNW = y_loadNW
  generalize @nilW = y_nilW
  generalize @storeW = y_storeW
  rfl

/-- clock_Clock_Cas -/
def P_clock_Clock_Cas (a0 a1 a2 : Value) (K : KV) : World → Prop := fun w =>
 binIntW .leq a2 a1 (fun x1 w =>
 condP x1 (fun w => K (Value.tuple #[(Value.bool false), (Value.int .i64 1)]) w) (fun w => binIntW .geq a2 (Value.int .u64 4611686018427387904) (fun x2 w =>
 condP x2 (fun w => K (Value.tuple #[(Value.bool false), (Value.int .i64 7)]) w) (fun w => nilW a0 (fun x3 w =>
 addW 0 x3 (fun x4 w =>
 load1W x4 (fun x5 w =>
 binIntW .neq x5 a1 (fun x6 w =>
 condP x6 (fun w => K (Value.tuple #[(Value.bool false), (Value.int .i64 0)]) w) (fun w => nilW a0 (fun x7 w =>
 addW 0 x7 (fun x8 w =>
 storeW 1 x8 a2 (fun _ w =>
 K (Value.tuple #[(Value.bool true), (Value.int .i64 0)]) w) w) w) w) w) w) w) w) w) w) w) w) w

theorem Q_clock_Clock_Cas (a0 a1 a2 : Value) (K : KV) : S_clock_Clock_Cas a0 a1 a2 K = P_clock_Clock_Cas a0 a1 a2 K := by
  unfold S_clock_Clock_Cas P_clock_Clock_Cas
  generalize @addW = y_addW
  generalize @binIntW = y_binIntW
  generalize @condP = y_condP
  generalize @load1W = y_load1W
  generalize @nilW = y_nilW
  generalize @storeW = y_storeW
  rfl

/-- epoch_Slots_Load -/
def P_epoch_Slots_Load (a0 a1 : Value) (K : KV) : World → Prop := fun w =>
 CP Try.prog Fn.epoch_Slots_is [a0, a1] (fun x1 w =>
 notW x1 (fun x2 w =>
 condP x2 (fun w => K (Value.tuple #[(Value.int .u64 0), (Value.int .i64 2)]) w) (fun w => nilW a0 (fun x3 w =>
 addW 0 x3 (fun x4 w =>
 load1W x4 (fun x5 w =>
 idxW 1 x5 a1 (fun x6 w =>
 load1W x6 (fun x7 w =>
 K (Value.tuple #[x7, (Value.int .i64 0)]) w) w) w) w) w) w) w) w) w

theorem Q_epoch_Slots_Load (a0 a1 : Value) (K : KV) : S_epoch_Slots_Load a0 a1 K = P_epoch_Slots_Load a0 a1 K := by
  unfold S_epoch_Slots_Load P_epoch_Slots_Load
  generalize @CP = y_CP
  generalize @addW = y_addW
  generalize @condP = y_condP
  generalize @idxW = y_idxW
  generalize @load1W = y_load1W
  generalize @nilW = y_nilW
  generalize @notW = y_notW
  rfl

/-- epoch_Slots_Store -/
def P_epoch_Slots_Store (a0 a1 a2 : Value) (K : KV) : World → Prop := fun w =>
 CP Try.prog Fn.epoch_Slots_is [a0, a1] (fun x1 w =>
 notW x1 (fun x2 w =>
 condP x2 (fun w => K (Value.int .i64 2) w) (fun w => nilW a0 (fun x3 w =>
 addW 0 x3 (fun x4 w =>
 load1W x4 (fun x5 w =>
 idxW 1 x5 a1 (fun x6 w =>
 storeW 1 x6 a2 (fun _ w =>
 K (Value.int .i64 0) w) w) w) w) w) w) w) w) w

theorem Q_epoch_Slots_Store (a0 a1 a2 : Value) (K : KV) : S_epoch_Slots_Store a0 a1 a2 K = P_epoch_Slots_Store a0 a1 a2 K := by
  unfold S_epoch_Slots_Store P_epoch_Slots_Store
  generalize @CP = y_CP
  generalize @addW = y_addW
  generalize @condP = y_condP
  generalize @idxW = y_idxW
  generalize @load1W = y_load1W
  generalize @nilW = y_nilW
  generalize @notW = y_notW
  generalize @storeW = y_storeW
  rfl

/-- slices_Clone_api_Lock_api_Lock -/
def P_slices_Clone_api_Lock_api_Lock (a0 : Value) (K : KV) : World → Prop := fun w =>
 eqNilSliceW .eql a0 (Value.slice none 0 0) (fun x1 w =>
 condP x1 (fun w => K (Value.slice none 0 0) w) (fun w => buildSliceW [(Value.int .u64 0), (Value.bool false), (Value.int .i64 0)] 0 [] (fun x2 w =>
 appendW 3 24 x2 a0 (fun x3 w =>
 K x3 w) w) w) w) w

theorem Q_slices_Clone_api_Lock_api_Lock (a0 : Value) (K : KV) : S_slices_Clone_api_Lock_api_Lock a0 K = P_slices_Clone_api_Lock_api_Lock a0 K := by
  unfold S_slices_Clone_api_Lock_api_Lock P_slices_Clone_api_Lock_api_Lock
  generalize @appendW = y_appendW
  generalize @buildSliceW = y_buildSliceW
  generalize @condP = y_condP
  generalize @eqNilSliceW = y_eqNilSliceW
  rfl

/-- slices_Clone_uint64_uint64 -/
def P_slices_Clone_uint64_uint64 (a0 : Value) (K : KV) : World → Prop := fun w =>
 eqNilSliceW .eql a0 (Value.slice none 0 0) (fun x1 w =>
 condP x1 (fun w => K (Value.slice none 0 0) w) (fun w => buildSliceW [(Value.int .u64 0)] 0 [] (fun x2 w =>
 appendW 1 8 x2 a0 (fun x3 w =>
 K x3 w) w) w) w) w

theorem Q_slices_Clone_uint64_uint64 (a0 : Value) (K : KV) : S_slices_Clone_uint64_uint64 a0 K = P_slices_Clone_uint64_uint64 a0 K := by
  unfold S_slices_Clone_uint64_uint64 P_slices_Clone_uint64_uint64
  generalize @appendW = y_appendW
  generalize @buildSliceW = y_buildSliceW
  generalize @condP = y_condP
  generalize @eqNilSliceW = y_eqNilSliceW
  rfl

/-- levels_New -/
def P_levels_New (a0 : Value) (K : KV) : World → Prop := fun w =>
 minW a0 [(Value.int .i64 96)] (fun x1 w =>
 maxW (Value.int .i64 0) [x1] (fun x2 w =>
 CP Try.prog Fn.levels_fresh [] (fun x3 w =>
 buildSliceW [(Value.pointer none)] 1 [(0, 1, x3)] (fun x4 w =>
 buildW [(Value.int .i64 0), (Value.slice none 0 0)] [(0, 1, x2), (1, 1, x4)] (fun x5 w =>
 boxW x5 (fun x6 w =>
 K x6 w) w) w) w) w) w) w

theorem Q_levels_New (a0 : Value) (K : KV) : S_levels_New a0 K = P_levels_New a0 K := by
  unfold S_levels_New P_levels_New
  generalize @CP = y_CP
  generalize @boxW = y_boxW
  generalize @buildSliceW = y_buildSliceW
  generalize @buildW = y_buildW
  generalize @maxW = y_maxW
  generalize @minW = y_minW
  rfl

/-- view_View_is -/
def P_view_View_is (a0 a1 : Value) (K : KV) : World → Prop := fun w =>
 binIntW .geq a1 (Value.int .i64 1) (fun x1 w =>
 gW x1 true (fun K w => K a1 w) (fun x2 w =>
 gW x1 true (fun K w => K a0 w) (fun x3 w =>
 gW x1 true (fun K w => nilW x3 K w) (fun x4 w =>
 gW x1 true (fun K w => addW 0 x4 K w) (fun x5 w =>
 gW x1 true (fun K w => load1W x5 K w) (fun x6 w =>
 gW x1 true (fun K w => lenW x6 K w) (fun x7 w =>
 gW x1 true (fun K w => binIntW .lss x2 x7 K w) (fun x8 w =>
 pickW x1 x8 (Value.bool false) (fun x9 w =>
 K x9 w) w) w) w) w) w) w) w) w) w

theorem Q_view_View_is (a0 a1 : Value) (K : KV) : S_view_View_is a0 a1 K = P_view_View_is a0 a1 K := by
  unfold S_view_View_is P_view_View_is
  generalize @addW = y_addW
  generalize @binIntW = y_binIntW
  generalize @gW = y_gW
  generalize @lenW = y_lenW
  generalize @load1W = y_load1W
  generalize @nilW = y_nilW
  generalize @pickW = y_pickW
  rfl

/-- draft_of -/
def P_draft_of (a0 : Value) (K : KV) : World → Prop := fun w =>
 CP Try.prog Fn.view_View_Size [a0] (fun x1 w =>
 CP Try.prog Fn.view_New [x1, (Value.int .i64 96)] (fun x2 w =>
 CP Try.prog Fn.view_View_Cells [a0] (fun x3 w =>
 lenW x3 (fun x4 w =>
 loopW1 (Value.int .i64 0) (fun J1 x5 w =>
 binIntW .lss x5 x4 (fun x6 w =>
 condP x6 (fun w => idxW 2 x3 x5 (fun x7 w =>
 loadNW 2 x7 (fun x8 w =>
 newW #[(Value.int .i64 0), (Value.int .u64 0)] (fun x9 w =>
 storeW 2 x9 x8 (fun _ w =>
 addW 0 x9 (fun x11 w =>
 load1W x11 (fun x12 w =>
 addW 1 x9 (fun x13 w =>
 load1W x13 (fun x14 w =>
 CP Try.prog Fn.view_View_Know [x2, x12, x14] (fun x15 w =>
 binIntW .add x5 (Value.int .i64 1) (fun x16 w =>
 J1 x16 w) w) w) w) w) w) w) w) w) w) w) (fun w => CP Try.prog Fn.view_View_Known [a0] (fun x17 w =>
 lenW x17 (fun x18 w =>
 loopW1 (Value.int .i64 0) (fun J2 x19 w =>
 binIntW .lss x19 x18 (fun x20 w =>
 condP x20 (fun w => idxW 2 x17 x19 (fun x21 w =>
 loadNW 2 x21 (fun x22 w =>
 newW #[(Value.int .i64 0), (Value.int .u64 0)] (fun x23 w =>
 storeW 2 x23 x22 (fun _ w =>
 addW 0 x23 (fun x25 w =>
 load1W x25 (fun x26 w =>
 addW 1 x23 (fun x27 w =>
 load1W x27 (fun x28 w =>
 CP Try.prog Fn.view_View_Know [x2, x26, x28] (fun x29 w =>
 binIntW .add x19 (Value.int .i64 1) (fun x30 w =>
 J2 x30 w) w) w) w) w) w) w) w) w) w) w) (fun w => K x2 w) w) w) w) w) w) w) w) w) w) w) w) w

theorem Q_draft_of (a0 : Value) (K : KV) : S_draft_of a0 K = P_draft_of a0 K := by
  unfold S_draft_of P_draft_of
  generalize @CP = y_CP
  generalize @addW = y_addW
  generalize @binIntW = y_binIntW
  generalize @condP = y_condP
  generalize @idxW = y_idxW
  generalize @lenW = y_lenW
  generalize @load1W = y_load1W
  generalize @loadNW = y_loadNW
  generalize @loopW1 = y_loopW1
  generalize @newW = y_newW
  generalize @storeW = y_storeW
  rfl

/-- view_View_Read -/
def P_view_View_Read (a0 a1 : Value) (K : KV) : World → Prop := fun w =>
 CP Try.prog Fn.view_View_is [a0, a1] (fun x1 w =>
 notW x1 (fun x2 w =>
 condP x2 (fun w => K (Value.tuple #[(Value.int .u64 0), (Value.int .i64 2)]) w) (fun w => nilW a0 (fun x3 w =>
 addW 2 x3 (fun x4 w =>
 load1W x4 (fun x5 w =>
 CP Try.prog Fn.levels_Levels_Get [x5, a1] (fun x6 w =>
 extractW 0 x6 (fun x7 w =>
 extractW 1 x6 (fun x8 w =>
 condP x8 (fun w => K (Value.tuple #[x7, (Value.int .i64 0)]) w) (fun w => nilW a0 (fun x9 w =>
 addW 0 x9 (fun x10 w =>
 load1W x10 (fun x11 w =>
 idxW 2 x11 a1 (fun x12 w =>
 loadNW 2 x12 (fun x13 w =>
 newW #[(Value.int .u64 0), (Value.bool false)] (fun x14 w =>
 storeW 2 x14 x13 (fun _ w =>
 addW 1 x14 (fun x16 w =>
 load1W x16 (fun x17 w =>
 condP x17 (fun w => addW 0 x14 (fun x18 w =>
 load1W x18 (fun x19 w =>
 K (Value.tuple #[x19, (Value.int .i64 0)]) w) w) w) (fun w => nilW a0 (fun x20 w =>
 addW 3 x20 (fun x21 w =>
 storeW 1 x21 a1 (fun _ w =>
 K (Value.tuple #[(Value.int .u64 0), (Value.int .i64 11)]) w) w) w) w) w) w) w) w) w) w) w) w) w) w) w) w) w) w) w) w) w) w) w) w

theorem Q_view_View_Read (a0 a1 : Value) (K : KV) : S_view_View_Read a0 a1 K = P_view_View_Read a0 a1 K := by
  unfold S_view_View_Read P_view_View_Read
  generalize @CP = y_CP
  generalize @addW = y_addW
  generalize @condP = y_condP
  generalize @extractW = y_extractW
  generalize @idxW = y_idxW
  generalize @load1W = y_load1W
  generalize @loadNW = y_loadNW
  generalize @newW = y_newW
  generalize @nilW = y_nilW
  generalize @notW = y_notW
  generalize @storeW = y_storeW
  rfl

/-- view_View_Need -/
def P_view_View_Need (a0 : Value) (K : KV) : World → Prop := fun w =>
 nilW a0 (fun x1 w =>
 addW 3 x1 (fun x2 w =>
 load1W x2 (fun x3 w =>
 K x3 w) w) w) w

theorem Q_view_View_Need (a0 : Value) (K : KV) : S_view_View_Need a0 K = P_view_View_Need a0 K := by
  unfold S_view_View_Need P_view_View_Need
  generalize @addW = y_addW
  generalize @load1W = y_load1W
  generalize @nilW = y_nilW
  rfl

/-- view_View_Take -/
def P_view_View_Take (a0 a1 : Value) (K : KV) : World → Prop := fun w =>
 lenW a1 (fun x1 w =>
 loopW1 (Value.int .i64 0) (fun J1 x2 w =>
 binIntW .lss x2 x1 (fun x3 w =>
 condP x3 (fun w => idxW 2 a1 x2 (fun x4 w =>
 loadNW 2 x4 (fun x5 w =>
 newW #[(Value.int .i64 0), (Value.int .u64 0)] (fun x6 w =>
 storeW 2 x6 x5 (fun _ w =>
 addW 0 x6 (fun x8 w =>
 load1W x8 (fun x9 w =>
 CP Try.prog Fn.view_View_is [a0, x9] (fun x10 w =>
 notW x10 (fun x11 w =>
 condP x11 (fun w => K (Value.int .i64 2) w) (fun w => binIntW .add x2 (Value.int .i64 1) (fun x12 w =>
 J1 x12 w) w) w) w) w) w) w) w) w) w) w) (fun w => nilW a0 (fun x13 w =>
 addW 2 x13 (fun x14 w =>
 load1W x14 (fun x15 w =>
 CP Try.prog Fn.levels_Levels_Take [x15, a1] (fun x16 w =>
 K x16 w) w) w) w) w) w) w) w) w

theorem Q_view_View_Take (a0 a1 : Value) (K : KV) : S_view_View_Take a0 a1 K = P_view_View_Take a0 a1 K := by
  unfold S_view_View_Take P_view_View_Take
  generalize @CP = y_CP
  generalize @addW = y_addW
  generalize @binIntW = y_binIntW
  generalize @condP = y_condP
  generalize @idxW = y_idxW
  generalize @lenW = y_lenW
  generalize @load1W = y_load1W
  generalize @loadNW = y_loadNW
  generalize @loopW1 = y_loopW1
  generalize @newW = y_newW
  generalize @nilW = y_nilW
  generalize @notW = y_notW
  generalize @storeW = y_storeW
  rfl

/-- view_View_Cells -/
def P_view_View_Cells (a0 : Value) (K : KV) : World → Prop := fun w =>
 nilW a0 (fun x1 w =>
 addW 2 x1 (fun x2 w =>
 load1W x2 (fun x3 w =>
 CP Try.prog Fn.levels_Levels_Cells [x3] (fun x4 w =>
 K x4 w) w) w) w) w

theorem Q_view_View_Cells (a0 : Value) (K : KV) : S_view_View_Cells a0 K = P_view_View_Cells a0 K := by
  unfold S_view_View_Cells P_view_View_Cells
  generalize @CP = y_CP
  generalize @addW = y_addW
  generalize @load1W = y_load1W
  generalize @nilW = y_nilW
  rfl

/-- view_View_Frees -/
def P_view_View_Frees (a0 : Value) (K : KV) : World → Prop := fun w =>
 nilW a0 (fun x1 w =>
 addW 2 x1 (fun x2 w =>
 load1W x2 (fun x3 w =>
 CP Try.prog Fn.levels_Levels_Frees [x3] (fun x4 w =>
 K x4 w) w) w) w) w

theorem Q_view_View_Frees (a0 : Value) (K : KV) : S_view_View_Frees a0 K = P_view_View_Frees a0 K := by
  unfold S_view_View_Frees P_view_View_Frees
  generalize @CP = y_CP
  generalize @addW = y_addW
  generalize @load1W = y_load1W
  generalize @nilW = y_nilW
  rfl

/-- view_View_Free -/
def P_view_View_Free (a0 a1 : Value) (K : KV) : World → Prop := fun w =>
 nilW a0 (fun x1 w =>
 addW 2 x1 (fun x2 w =>
 load1W x2 (fun x3 w =>
 CP Try.prog Fn.levels_Levels_Free [x3, a1] (fun x4 w =>
 K (Value.tuple #[]) w) w) w) w) w

theorem Q_view_View_Free (a0 a1 : Value) (K : KV) : S_view_View_Free a0 a1 K = P_view_View_Free a0 a1 K := by
  unfold S_view_View_Free P_view_View_Free
  generalize @CP = y_CP
  generalize @addW = y_addW
  generalize @load1W = y_load1W
  generalize @nilW = y_nilW
  rfl

/-- draft_Draft_Place -/
def P_draft_Draft_Place (a0 a1 : Value) (K : KV) : World → Prop := fun w =>
 CP Try.prog Fn.draft_Draft_Read [a0, a1] (fun x1 w =>
 CP Try.prog Fn.draft_Draft_Name [a0, x1] (fun x2 w =>
 K x2 w) w) w

theorem Q_draft_Draft_Place (a0 a1 : Value) (K : KV) : S_draft_Draft_Place a0 a1 K = P_draft_Draft_Place a0 a1 K := by
  unfold S_draft_Draft_Place P_draft_Draft_Place
  generalize @CP = y_CP
  rfl

/-- draft_Draft_Fail -/
def P_draft_Draft_Fail (a0 a1 : Value) (K : KV) : World → Prop := fun w =>
 CP Try.prog Fn.draft_Draft_OK [a0] (fun x1 w =>
 joinW0 (fun  w =>
 K (Value.tuple #[]) w) (fun j1 w =>
 condP x1 (fun w => nilW a0 (fun x2 w =>
 addW 1 x2 (fun x3 w =>
 storeW 1 x3 a1 (fun _ w =>
 j1  w) w) w) w) (fun w => j1  w) w) w) w

theorem Q_draft_Draft_Fail (a0 a1 : Value) (K : KV) : S_draft_Draft_Fail a0 a1 K = P_draft_Draft_Fail a0 a1 K := by
  unfold S_draft_Draft_Fail P_draft_Draft_Fail
  generalize @CP = y_CP
  generalize @addW = y_addW
  generalize @condP = y_condP
  generalize @joinW0 = y_joinW0
  generalize @nilW = y_nilW
  generalize @storeW = y_storeW
  rfl

/-- table_chain -/
def P_table_chain (a0 a1 : Value) (K : KV) : World → Prop := fun w =>
 binIntW .mul a0 (Value.int .u64 11400714819323198485) (fun x1 w =>
 binIntW .shr x1 (Value.int .u64 60) (fun x2 w =>
 convW .i64 x2 (fun x3 w =>
 binIntW .sub a1 (Value.int .i64 1) (fun x4 w =>
 binIntW .and x3 x4 (fun x5 w =>
 K x5 w) w) w) w) w) w

theorem Q_table_chain (a0 a1 : Value) (K : KV) : S_table_chain a0 a1 K = P_table_chain a0 a1 K := by
  unfold S_table_chain P_table_chain
  generalize @binIntW = y_binIntW
  generalize @convW = y_convW
  rfl

/-- draft_Draft_Step -/
def P_draft_Draft_Step (a0 : Value) (K : KV) : World → Prop := fun w =>
 nilW a0 (fun x1 w =>
 addW 2 x1 (fun x2 w =>
 load1W x2 (fun x3 w =>
 binIntW .add x3 (Value.int .i64 1) (fun x4 w =>
 nilW a0 (fun x5 w =>
 addW 2 x5 (fun x6 w =>
 storeW 1 x6 x4 (fun _ w =>
 nilW a0 (fun x8 w =>
 addW 2 x8 (fun x9 w =>
 load1W x9 (fun x10 w =>
 binIntW .gtr x10 (Value.int .i64 2048) (fun x11 w =>
 joinW0 (fun  w =>
 CP Try.prog Fn.draft_Draft_OK [a0] (fun x12 w =>
 K x12 w) w) (fun j1 w =>
 condP x11 (fun w => CP Try.prog Fn.draft_Draft_Fail [a0, (Value.int .i64 2)] (fun x13 w =>
 j1  w) w) (fun w => j1  w) w) w) w) w) w) w) w) w) w) w) w) w) w

theorem Q_draft_Draft_Step (a0 : Value) (K : KV) : S_draft_Draft_Step a0 K = P_draft_Draft_Step a0 K := by
  unfold S_draft_Draft_Step P_draft_Draft_Step
  generalize @CP = y_CP
  generalize @addW = y_addW
  generalize @binIntW = y_binIntW
  generalize @condP = y_condP
  generalize @joinW0 = y_joinW0
  generalize @load1W = y_load1W
  generalize @nilW = y_nilW
  generalize @storeW = y_storeW
  rfl

/-- view_View_Write -/
def P_view_View_Write (a0 a1 a2 : Value) (K : KV) : World → Prop := fun w =>
 CP Try.prog Fn.view_View_is [a0, a1] (fun x1 w =>
 notW x1 (fun x2 w =>
 condP x2 (fun w => K (Value.int .i64 2) w) (fun w => nilW a0 (fun x3 w =>
 addW 2 x3 (fun x4 w =>
 load1W x4 (fun x5 w =>
 CP Try.prog Fn.levels_Levels_Put [x5, a1, a2] (fun x6 w =>
 K x6 w) w) w) w) w) w) w) w

theorem Q_view_View_Write (a0 a1 a2 : Value) (K : KV) : S_view_View_Write a0 a1 a2 K = P_view_View_Write a0 a1 a2 K := by
  unfold S_view_View_Write P_view_View_Write
  generalize @CP = y_CP
  generalize @addW = y_addW
  generalize @condP = y_condP
  generalize @load1W = y_load1W
  generalize @nilW = y_nilW
  generalize @notW = y_notW
  rfl

/-- table_table_grow_1 -/
def P_table_table_grow_1 (a0 a1 a2 a3 : Value) (K : KV) : World → Prop := fun w =>
 drewW (fun w => load1W a1 (fun x1 w =>
 nilW x1 (fun x2 w =>
 addW 0 x2 (fun x3 w =>
 load1W x3 (fun x4 w =>
 binIntW .add a0 (Value.int .i64 0) (fun x5 w =>
 load1W a2 (fun x6 w =>
 CP Try.prog Fn.draft_Draft_Read [x4, x5] (fun x7 w =>
 andP (fun w => andP (fun w => load1W a2 (fun v w => eqP v x6 w) w) (fun w => andP (fun w => trueP w) (fun w => andP (fun w => trueP w) (fun w => trueP w) w) w) w) (fun w =>
 CP Try.prog Fn.table_chain [x7, x6] (fun x8 w =>
 andP (fun w => andP (fun w => trueP w) (fun w => trueP w) w) (fun w =>
 drewW (fun w => load1W a1 (fun x9 w =>
 nilW x9 (fun x10 w =>
 addW 0 x10 (fun x11 w =>
 load1W x11 (fun x12 w =>
 binIntW .add a0 (Value.int .i64 2) (fun x13 w =>
 load1W a3 (fun x14 w =>
 idxW 1 x14 x8 (fun x15 w =>
 load1W x15 (fun x16 w =>
 CP Try.prog Fn.draft_Draft_Point [x12, x13, x16] (fun x17 w =>
 andP (fun w => andP (fun w => trueP w) (fun w => andP (fun w => trueP w) (fun w => andP (fun w => trueP w) (fun w => andP (fun w => trueP w) (fun w => trueP w) w) w) w) w) (fun w =>
 load1W a3 (fun x18 w =>
 idxW 1 x18 x8 (fun x19 w =>
 storeW 1 x19 a0 (fun _ w =>
 K (Value.tuple #[]) w) w) w) w) w) w) w) w) w) w) w) w) w) w) w) w) w) w) w) w) w) w) w) w) w) w

theorem Q_table_table_grow_1 (a0 a1 a2 a3 : Value) (K : KV) : S_table_table_grow_1 a0 a1 a2 a3 K = P_table_table_grow_1 a0 a1 a2 a3 K := by
  unfold S_table_table_grow_1 P_table_table_grow_1
  generalize @CP = y_CP
  generalize @addW = y_addW
  generalize @andP = y_andP
  generalize @binIntW = y_binIntW
  generalize @drewW = y_drewW
  generalize @eqP = y_eqP
  generalize @idxW = y_idxW
  generalize @load1W = y_load1W
  generalize @nilW = y_nilW
  generalize @storeW = y_storeW
  rfl

/-- draft_Draft_Free -/
def P_draft_Draft_Free (a0 a1 : Value) (K : KV) : World → Prop := fun w =>
 CP Try.prog Fn.draft_Draft_OK [a0] (fun x1 w =>
 joinW0 (fun  w =>
 K (Value.tuple #[]) w) (fun j1 w =>
 condP x1 (fun w => nilW a0 (fun x2 w =>
 addW 0 x2 (fun x3 w =>
 load1W x3 (fun x4 w =>
 CP Try.prog Fn.arena_Free [x4, a1] (fun x5 w =>
 CP Try.prog Fn.draft_Draft_Fail [a0, x5] (fun x6 w =>
 j1  w) w) w) w) w) w) (fun w => j1  w) w) w) w

theorem Q_draft_Draft_Free (a0 a1 : Value) (K : KV) : S_draft_Draft_Free a0 a1 K = P_draft_Draft_Free a0 a1 K := by
  unfold S_draft_Draft_Free P_draft_Draft_Free
  generalize @CP = y_CP
  generalize @addW = y_addW
  generalize @condP = y_condP
  generalize @joinW0 = y_joinW0
  generalize @load1W = y_load1W
  generalize @nilW = y_nilW
  rfl

/-- arena_Alloc -/
def P_arena_Alloc (a0 a1 : Value) (K : KV) : World → Prop := fun w =>
 CP Try.prog Fn.arena_Class [a1] (fun x1 w =>
 binIntW .eql x1 (Value.int .i64 0) (fun x2 w =>
 condP x2 (fun w => K (Value.tuple #[(Value.int .i64 0), (Value.int .i64 3)]) w) (fun w => CP Try.prog Fn.arena_head [x1] (fun x3 w =>
 CP Try.prog Fn.view_View_Read [a0, x3] (fun x4 w =>
 extractW 0 x4 (fun x5 w =>
 extractW 1 x4 (fun x6 w =>
 binIntW .neq x6 (Value.int .i64 0) (fun x7 w =>
 condP x7 (fun w => K (Value.tuple #[(Value.int .i64 0), x6]) w) (fun w => binIntW .neq x5 (Value.int .u64 0) (fun x8 w =>
 condP x8 (fun w => CP Try.prog Fn.arena_again [a0, x1, x5] (fun x9 w =>
 extractW 0 x9 (fun x10 w =>
 extractW 1 x9 (fun x11 w =>
 K (Value.tuple #[x10, x11]) w) w) w) w) (fun w => CP Try.prog Fn.arena_grown [a0, x1] (fun x12 w =>
 extractW 0 x12 (fun x13 w =>
 extractW 1 x12 (fun x14 w =>
 K (Value.tuple #[x13, x14]) w) w) w) w) w) w) w) w) w) w) w) w) w) w) w

theorem Q_arena_Alloc (a0 a1 : Value) (K : KV) : S_arena_Alloc a0 a1 K = P_arena_Alloc a0 a1 K := by
  unfold S_arena_Alloc P_arena_Alloc
  generalize @CP = y_CP
  generalize @binIntW = y_binIntW
  generalize @condP = y_condP
  generalize @extractW = y_extractW
  rfl

/-- math_bits_Len -/
def P_math_bits_Len (a0 : Value) (K : KV) : World → Prop := fun w =>
 condP (Value.bool false) (fun w => convW .u32 a0 (fun x1 w =>
 CP Try.prog Fn.math_bits_Len32 [x1] (fun x2 w =>
 K x2 w) w) w) (fun w => CP Try.prog Fn.math_bits_Len64 [a0] (fun x3 w =>
 K x3 w) w) w

theorem Q_math_bits_Len (a0 : Value) (K : KV) : S_math_bits_Len a0 K = P_math_bits_Len a0 K := by
  unfold S_math_bits_Len P_math_bits_Len
  generalize @CP = y_CP
  generalize @condP = y_condP
  generalize @convW = y_convW
  rfl

/-- cmp_isNaN_uint64 -/
def P_cmp_isNaN_uint64 (a0 : Value) (K : KV) : World → Prop := fun w =>
 binIntW .neq a0 a0 (fun x1 w =>
 K x1 w) w

theorem Q_cmp_isNaN_uint64 (a0 : Value) (K : KV) : S_cmp_isNaN_uint64 a0 K = P_cmp_isNaN_uint64 a0 K := by
  unfold S_cmp_isNaN_uint64 P_cmp_isNaN_uint64
  generalize @binIntW = y_binIntW
  rfl

/-- patience_Patience_Waits -/
def P_patience_Patience_Waits (a0 a1 : Value) (K : KV) : World → Prop := fun w =>
 boxW a1 (fun x1 w =>
 drewW (fun w => addW 2 x1 (fun x2 w =>
 load1W x2 (fun x3 w =>
 nilW a0 (fun x4 w =>
 addW 0 x4 (fun x5 w =>
 load1W x5 (fun x6 w =>
 binIntW .gtr x3 x6 (fun x7 w =>
 condP x7 (fun w => K (Value.bool true) w) (fun w => nilW a0 (fun x8 w =>
 addW 1 x8 (fun x9 w =>
 load1W x9 (fun x10 w =>
 binIntW .sub x10 (Value.int .i64 1) (fun x11 w =>
 nilW a0 (fun x12 w =>
 addW 1 x12 (fun x13 w =>
 storeW 1 x13 x11 (fun _ w =>
 nilW a0 (fun x15 w =>
 addW 1 x15 (fun x16 w =>
 load1W x16 (fun x17 w =>
 binIntW .geq x17 (Value.int .i64 0) (fun x18 w =>
 K x18 w) w) w) w) w) w) w) w) w) w) w) w) w) w) w) w) w) w) w) w) w

theorem Q_patience_Patience_Waits (a0 a1 : Value) (K : KV) : S_patience_Patience_Waits a0 a1 K = P_patience_Patience_Waits a0 a1 K := by
  unfold S_patience_Patience_Waits P_patience_Patience_Waits
  generalize @addW = y_addW
  generalize @binIntW = y_binIntW
  generalize @boxW = y_boxW
  generalize @condP = y_condP
  generalize @drewW = y_drewW
  generalize @load1W = y_load1W
  generalize @nilW = y_nilW
  generalize @storeW = y_storeW
  rfl

/-- slices_BinarySearch_int_int -/
def P_slices_BinarySearch_int_int (a0 a1 : Value) (K : KV) : World → Prop := fun w =>
 lenW a0 (fun x1 w =>
 loopW2 (Value.int .i64 0) x1 (fun J1 x2 x3 w =>
 binIntW .lss x2 x3 (fun x4 w =>
 condP x4 (fun w => binIntW .add x2 x3 (fun x5 w =>
 convW .u64 x5 (fun x6 w =>
 binIntW .shr x6 (Value.int .u64 1) (fun x7 w =>
 convW .i64 x7 (fun x8 w =>
 idxW 1 a0 x8 (fun x9 w =>
 load1W x9 (fun x10 w =>
 CP Try.prog Fn.cmp_Less_int [x10, a1] (fun x11 w =>
 joinW2 (fun x12 x13 w =>
 J1 x12 x13 w) (fun j1 w =>
 condP x11 (fun w => binIntW .add x8 (Value.int .i64 1) (fun x14 w =>
 j1 x14 x3 w) w) (fun w => j1 x2 x8 w) w) w) w) w) w) w) w) w) w) (fun w => binIntW .lss x2 x1 (fun x15 w =>
 gW x15 true (fun K w => K a0 w) (fun x16 w =>
 gW x15 true (fun K w => K x2 w) (fun x17 w =>
 gW x15 true (fun K w => idxW 1 x16 x17 K w) (fun x18 w =>
 gW x15 true (fun K w => load1W x18 K w) (fun x19 w =>
 gW x15 true (fun K w => K a1 w) (fun x20 w =>
 gW x15 true (fun K w => binIntW .eql x19 x20 K w) (fun x21 w =>
 gW x15 true (fun K w => K x21 w) (fun x22 w =>
 gW x22 false (fun K w => K a0 w) (fun x23 w =>
 gW x22 false (fun K w => K x2 w) (fun x24 w =>
 gW x22 false (fun K w => idxW 1 x23 x24 K w) (fun x25 w =>
 gW x22 false (fun K w => load1W x25 K w) (fun x26 w =>
 gW x22 false (fun K w => CP Try.prog Fn.slices_isNaN_int [x26] K w) (fun x27 w =>
 gW x22 false (fun K w => K x27 w) (fun x28 w =>
 gW x28 true (fun K w => K a1 w) (fun x29 w =>
 gW x28 true (fun K w => CP Try.prog Fn.slices_isNaN_int [x29] K w) (fun x30 w =>
 gW x22 false (fun K w => pickW x28 x30 (Value.bool false) K w) (fun x31 w =>
 gW x15 true (fun K w => pickW x22 (Value.bool true) x31 K w) (fun x32 w =>
 pickW x15 x32 (Value.bool false) (fun x33 w =>
 K (Value.tuple #[x2, x33]) w) w) w) w) w) w) w) w) w) w) w) w) w) w) w) w) w) w) w) w) w) w) w) w

theorem Q_slices_BinarySearch_int_int (a0 a1 : Value) (K : KV) : S_slices_BinarySearch_int_int a0 a1 K = P_slices_BinarySearch_int_int a0 a1 K := by
  unfold S_slices_BinarySearch_int_int P_slices_BinarySearch_int_int
  generalize @CP = y_CP
  generalize @binIntW = y_binIntW
  generalize @condP = y_condP
  generalize @convW = y_convW
  generalize @gW = y_gW
  generalize @idxW = y_idxW
  generalize @joinW2 = y_joinW2
  generalize @lenW = y_lenW
  generalize @load1W = y_load1W
  generalize @loopW2 = y_loopW2
  generalize @pickW = y_pickW
  rfl

/-- heap_Heap_is -/
def P_heap_Heap_is (a0 a1 : Value) (K : KV) : World → Prop := fun w =>
 binIntW .geq a1 (Value.int .i64 1) (fun x1 w =>
 gW x1 true (fun K w => K a1 w) (fun x2 w =>
 gW x1 true (fun K w => K a0 w) (fun x3 w =>
 gW x1 true (fun K w => nilW x3 K w) (fun x4 w =>
 gW x1 true (fun K w => addW 0 x4 K w) (fun x5 w =>
 gW x1 true (fun K w => load1W x5 K w) (fun x6 w =>
 gW x1 true (fun K w => lenW x6 K w) (fun x7 w =>
 gW x1 true (fun K w => binIntW .lss x2 x7 K w) (fun x8 w =>
 pickW x1 x8 (Value.bool false) (fun x9 w =>
 K x9 w) w) w) w) w) w) w) w) w) w

theorem Q_heap_Heap_is (a0 a1 : Value) (K : KV) : S_heap_Heap_is a0 a1 K = P_heap_Heap_is a0 a1 K := by
  unfold S_heap_Heap_is P_heap_Heap_is
  generalize @addW = y_addW
  generalize @binIntW = y_binIntW
  generalize @gW = y_gW
  generalize @lenW = y_lenW
  generalize @load1W = y_load1W
  generalize @nilW = y_nilW
  generalize @pickW = y_pickW
  rfl

/-- stripe_Table_is -/
def P_stripe_Table_is (a0 a1 : Value) (K : KV) : World → Prop := fun w =>
 binIntW .geq a1 (Value.int .i64 0) (fun x1 w =>
 gW x1 true (fun K w => K a1 w) (fun x2 w =>
 gW x1 true (fun K w => K a0 w) (fun x3 w =>
 gW x1 true (fun K w => nilW x3 K w) (fun x4 w =>
 gW x1 true (fun K w => addW 0 x4 K w) (fun x5 w =>
 gW x1 true (fun K w => load1W x5 K w) (fun x6 w =>
 gW x1 true (fun K w => lenW x6 K w) (fun x7 w =>
 gW x1 true (fun K w => binIntW .lss x2 x7 K w) (fun x8 w =>
 pickW x1 x8 (Value.bool false) (fun x9 w =>
 K x9 w) w) w) w) w) w) w) w) w) w

theorem Q_stripe_Table_is (a0 a1 : Value) (K : KV) : S_stripe_Table_is a0 a1 K = P_stripe_Table_is a0 a1 K := by
  unfold S_stripe_Table_is P_stripe_Table_is
  generalize @addW = y_addW
  generalize @binIntW = y_binIntW
  generalize @gW = y_gW
  generalize @lenW = y_lenW
  generalize @load1W = y_load1W
  generalize @nilW = y_nilW
  generalize @pickW = y_pickW
  rfl

/-- stripe_Table_may -/
def P_stripe_Table_may (a0 a1 a2 : Value) (K : KV) : World → Prop := fun w =>
 boxW a2 (fun x1 w =>
 CP Try.prog Fn.stripe_Table_is [a0, a1] (fun x2 w =>
 notW x2 (fun x3 w =>
 condP x3 (fun w => K (Value.int .i64 2) w) (fun w => loadNW 3 x1 (fun x4 w =>
 CP Try.prog Fn.lock_Is [x4] (fun x5 w =>
 notW x5 (fun x6 w =>
 condP x6 (fun w => K (Value.int .i64 1) w) (fun w => K (Value.int .i64 0) w) w) w) w) w) w) w) w) w

theorem Q_stripe_Table_may (a0 a1 a2 : Value) (K : KV) : S_stripe_Table_may a0 a1 a2 K = P_stripe_Table_may a0 a1 a2 K := by
  unfold S_stripe_Table_may P_stripe_Table_may
  generalize @CP = y_CP
  generalize @boxW = y_boxW
  generalize @condP = y_condP
  generalize @loadNW = y_loadNW
  generalize @notW = y_notW
  rfl

/-- epoch_Slots_is -/
def P_epoch_Slots_is (a0 a1 : Value) (K : KV) : World → Prop := fun w =>
 binIntW .geq a1 (Value.int .i64 0) (fun x1 w =>
 gW x1 true (fun K w => K a1 w) (fun x2 w =>
 gW x1 true (fun K w => K a0 w) (fun x3 w =>
 gW x1 true (fun K w => nilW x3 K w) (fun x4 w =>
 gW x1 true (fun K w => addW 0 x4 K w) (fun x5 w =>
 gW x1 true (fun K w => load1W x5 K w) (fun x6 w =>
 gW x1 true (fun K w => lenW x6 K w) (fun x7 w =>
 gW x1 true (fun K w => binIntW .lss x2 x7 K w) (fun x8 w =>
 pickW x1 x8 (Value.bool false) (fun x9 w =>
 K x9 w) w) w) w) w) w) w) w) w) w

theorem Q_epoch_Slots_is (a0 a1 : Value) (K : KV) : S_epoch_Slots_is a0 a1 K = P_epoch_Slots_is a0 a1 K := by
  unfold S_epoch_Slots_is P_epoch_Slots_is
  generalize @addW = y_addW
  generalize @binIntW = y_binIntW
  generalize @gW = y_gW
  generalize @lenW = y_lenW
  generalize @load1W = y_load1W
  generalize @nilW = y_nilW
  generalize @pickW = y_pickW
  rfl

/-- levels_fresh -/
def P_levels_fresh (K : KV) : World → Prop := fun w =>
 CP Try.prog Fn.writes_New [(Value.int .i64 96)] (fun x1 w =>
 buildW [(Value.pointer none), (Value.slice none 0 0)] [(0, 1, x1)] (fun x2 w =>
 boxW x2 (fun x3 w =>
 K x3 w) w) w) w

theorem Q_levels_fresh (K : KV) : S_levels_fresh K = P_levels_fresh K := by
  unfold S_levels_fresh P_levels_fresh
  generalize @CP = y_CP
  generalize @boxW = y_boxW
  generalize @buildW = y_buildW
  rfl

/-- view_View_Known -/
def P_view_View_Known (a0 : Value) (K : KV) : World → Prop := fun w =>
 nilW a0 (fun x1 w =>
 addW 1 x1 (fun x2 w =>
 load1W x2 (fun x3 w =>
 lenW x3 (fun x4 w =>
 makeSliceW 16 [(Value.int .i64 0), (Value.int .u64 0)] (Value.int .i64 0) x4 (fun x5 w =>
 nilW a0 (fun x6 w =>
 addW 1 x6 (fun x7 w =>
 load1W x7 (fun x8 w =>
 lenW x8 (fun x9 w =>
 loopW2 x5 (Value.int .i64 0) (fun J1 x10 x11 w =>
 binIntW .lss x11 x9 (fun x12 w =>
 condP x12 (fun w => idxW 1 x8 x11 (fun x13 w =>
 load1W x13 (fun x14 w =>
 nilW a0 (fun x15 w =>
 addW 0 x15 (fun x16 w =>
 load1W x16 (fun x17 w =>
 idxW 2 x17 x14 (fun x18 w =>
 addW 0 x18 (fun x19 w =>
 load1W x19 (fun x20 w =>
 buildW [(Value.int .i64 0), (Value.int .u64 0)] [(0, 1, x14), (1, 1, x20)] (fun x21 w =>
 buildSliceW [(Value.int .i64 0), (Value.int .u64 0)] 1 [(0, 2, x21)] (fun x22 w =>
 appendW 2 16 x10 x22 (fun x23 w =>
 binIntW .add x11 (Value.int .i64 1) (fun x24 w =>
 J1 x23 x24 w) w) w) w) w) w) w) w) w) w) w) w) w) (fun w => K x10 w) w) w) w) w) w) w) w) w) w) w) w) w

theorem Q_view_View_Known (a0 : Value) (K : KV) : S_view_View_Known a0 K = P_view_View_Known a0 K := by
  unfold S_view_View_Known P_view_View_Known
  generalize @addW = y_addW
  generalize @appendW = y_appendW
  generalize @binIntW = y_binIntW
  generalize @buildSliceW = y_buildSliceW
  generalize @buildW = y_buildW
  generalize @condP = y_condP
  generalize @idxW = y_idxW
  generalize @lenW = y_lenW
  generalize @load1W = y_load1W
  generalize @loopW2 = y_loopW2
  generalize @makeSliceW = y_makeSliceW
  generalize @nilW = y_nilW
  rfl

/-- levels_Levels_Get -/
def P_levels_Levels_Get (a0 a1 : Value) (K : KV) : World → Prop := fun w =>
 boxW a1 (fun x1 w =>
 newW #[(Value.int .u64 0)] (fun x2 w =>
 newW #[(Value.bool false)] (fun x3 w =>
 nilW a0 (fun x4 w =>
 addW 1 x4 (fun x5 w =>
 load1W x5 (fun x6 w =>
 CP Try.prog Fn.slices_Backward_levels_level_levels_level [x6] (fun x7 w =>
 backW Fn.slices_Backward_levels_level_levels_level_1 x7 (fun J R x8 x9 w =>
 drewW (fun w => nilW x9 (fun x10 w =>
 addW 0 x10 (fun x11 w =>
 load1W x11 (fun x12 w =>
 load1W x1 (fun x13 w =>
 CP Try.prog Fn.writes_Writes_Get [x12, x13] (fun x14 w =>
 andP (fun w => andP (fun w => trueP w) (fun w => andP (fun w => trueP w) (fun w => trueP w) w) w) (fun w =>
 extractW 0 x14 (fun x15 w =>
 extractW 1 x14 (fun x16 w =>
 condP x16 (fun w => storeW 1 x2 x15 (fun _ w =>
 storeW 1 x3 (Value.bool true) (fun _ w =>
 R w) w) w) (fun w => J w) w) w) w) w) w) w) w) w) w) w) (fun K w =>
 storeW 1 x2 (Value.int .u64 0) (fun _ w =>
 storeW 1 x3 (Value.bool false) (fun _ w =>
 load1W x2 (fun x21 w =>
 load1W x3 (fun x22 w =>
 K (Value.tuple #[x21, x22]) w) w) w) w) w) (fun K w =>
 load1W x2 (fun x23 w =>
 load1W x3 (fun x24 w =>
 K (Value.tuple #[x23, x24]) w) w) w) K w) w) w) w) w) w) w) w

theorem Q_levels_Levels_Get (a0 a1 : Value) (K : KV) : S_levels_Levels_Get a0 a1 K = P_levels_Levels_Get a0 a1 K := by
  unfold S_levels_Levels_Get P_levels_Levels_Get
  generalize @CP = y_CP
  generalize @addW = y_addW
  generalize @andP = y_andP
  generalize @backW = y_backW
  generalize @boxW = y_boxW
  generalize @condP = y_condP
  generalize @drewW = y_drewW
  generalize @extractW = y_extractW
  generalize @load1W = y_load1W
  generalize @newW = y_newW
  generalize @nilW = y_nilW
  generalize @storeW = y_storeW
  rfl

/-- levels_Levels_Take -/
def P_levels_Levels_Take (a0 a1 : Value) (K : KV) : World → Prop := fun w =>
 CP Try.prog Fn.writes_New [(Value.int .i64 96)] (fun x1 w =>
 CP Try.prog Fn.levels_Levels_in [a0] (fun x2 w =>
 nilW x2 (fun x3 w =>
 addW 0 x3 (fun x4 w =>
 load1W x4 (fun x5 w =>
 CP Try.prog Fn.writes_Writes_All [x5] (fun x6 w =>
 CP Try.prog Fn.writes_Writes_Take [x1, x6] (fun x7 w =>
 lenW a1 (fun x8 w =>
 loopW1 (Value.int .i64 0) (fun J1 x9 w =>
 binIntW .lss x9 x8 (fun x10 w =>
 condP x10 (fun w => idxW 2 a1 x9 (fun x11 w =>
 loadNW 2 x11 (fun x12 w =>
 newW #[(Value.int .i64 0), (Value.int .u64 0)] (fun x13 w =>
 storeW 2 x13 x12 (fun _ w =>
 addW 0 x13 (fun x15 w =>
 load1W x15 (fun x16 w =>
 addW 1 x13 (fun x17 w =>
 load1W x17 (fun x18 w =>
 CP Try.prog Fn.levels_Levels_Put [a0, x16, x18] (fun x19 w =>
 binIntW .neq x19 (Value.int .i64 0) (fun x20 w =>
 condP x20 (fun w => CP Try.prog Fn.levels_Levels_in [a0] (fun x21 w =>
 nilW x21 (fun x22 w =>
 addW 0 x22 (fun x23 w =>
 storeW 1 x23 x1 (fun _ w =>
 K x19 w) w) w) w) w) (fun w => binIntW .add x9 (Value.int .i64 1) (fun x25 w =>
 J1 x25 w) w) w) w) w) w) w) w) w) w) w) w) w) (fun w => K (Value.int .i64 0) w) w) w) w) w) w) w) w) w) w) w) w

theorem Q_levels_Levels_Take (a0 a1 : Value) (K : KV) : S_levels_Levels_Take a0 a1 K = P_levels_Levels_Take a0 a1 K := by
  unfold S_levels_Levels_Take P_levels_Levels_Take
  generalize @CP = y_CP
  generalize @addW = y_addW
  generalize @binIntW = y_binIntW
  generalize @condP = y_condP
  generalize @idxW = y_idxW
  generalize @lenW = y_lenW
  generalize @load1W = y_load1W
  generalize @loadNW = y_loadNW
  generalize @loopW1 = y_loopW1
  generalize @newW = y_newW
  generalize @nilW = y_nilW
  generalize @storeW = y_storeW
  rfl

/-- levels_Levels_Cells -/
def P_levels_Levels_Cells (a0 : Value) (K : KV) : World → Prop := fun w =>
 newW #[(Value.slice none 0 0)] (fun x1 w =>
 nilW a0 (fun x2 w =>
 addW 1 x2 (fun x3 w =>
 load1W x3 (fun x4 w =>
 CP Try.prog Fn.slices_Backward_levels_level_levels_level [x4] (fun x5 w =>
 backW Fn.slices_Backward_levels_level_levels_level_1 x5 (fun J R x6 x7 w =>
 CP Try.prog Fn.writes_New [(Value.int .i64 96)] (fun x8 w =>
 nilW x7 (fun x9 w =>
 addW 0 x9 (fun x10 w =>
 load1W x10 (fun x11 w =>
 CP Try.prog Fn.writes_Writes_All [x11] (fun x12 w =>
 CP Try.prog Fn.writes_Writes_Take [x8, x12] (fun x13 w =>
 load1W x1 (fun x14 w =>
 CP Try.prog Fn.writes_Writes_Take [x8, x14] (fun x15 w =>
 CP Try.prog Fn.writes_Writes_All [x8] (fun x16 w =>
 storeW 1 x1 x16 (fun _ w =>
 J w) w) w) w) w) w) w) w) w) w) w) (fun K w =>
 load1W x1 (fun x18 w =>
 K x18 w) w) (fun K w =>
 K (Value.slice none 0 0) w) K w) w) w) w) w) w

theorem Q_levels_Levels_Cells (a0 : Value) (K : KV) : S_levels_Levels_Cells a0 K = P_levels_Levels_Cells a0 K := by
  unfold S_levels_Levels_Cells P_levels_Levels_Cells
  generalize @CP = y_CP
  generalize @addW = y_addW
  generalize @backW = y_backW
  generalize @load1W = y_load1W
  generalize @newW = y_newW
  generalize @nilW = y_nilW
  generalize @storeW = y_storeW
  rfl

/-- levels_Levels_Frees -/
def P_levels_Levels_Frees (a0 : Value) (K : KV) : World → Prop := fun w =>
 nilW a0 (fun x1 w =>
 addW 1 x1 (fun x2 w =>
 load1W x2 (fun x3 w =>
 lenW x3 (fun x4 w =>
 loopW2 (Value.slice none 0 0) (Value.int .i64 0) (fun J1 x5 x6 w =>
 binIntW .lss x6 x4 (fun x7 w =>
 condP x7 (fun w => idxW 1 x3 x6 (fun x8 w =>
 load1W x8 (fun x9 w =>
 nilW x9 (fun x10 w =>
 addW 1 x10 (fun x11 w =>
 load1W x11 (fun x12 w =>
 appendW 1 8 x5 x12 (fun x13 w =>
 binIntW .add x6 (Value.int .i64 1) (fun x14 w =>
 J1 x13 x14 w) w) w) w) w) w) w) w) (fun w => K x5 w) w) w) w) w) w) w) w

theorem Q_levels_Levels_Frees (a0 : Value) (K : KV) : S_levels_Levels_Frees a0 K = P_levels_Levels_Frees a0 K := by
  unfold S_levels_Levels_Frees P_levels_Levels_Frees
  generalize @addW = y_addW
  generalize @appendW = y_appendW
  generalize @binIntW = y_binIntW
  generalize @condP = y_condP
  generalize @idxW = y_idxW
  generalize @lenW = y_lenW
  generalize @load1W = y_load1W
  generalize @loopW2 = y_loopW2
  generalize @nilW = y_nilW
  rfl

/-- levels_Levels_Free -/
def P_levels_Levels_Free (a0 a1 : Value) (K : KV) : World → Prop := fun w =>
 CP Try.prog Fn.levels_Levels_in [a0] (fun x1 w =>
 nilW x1 (fun x2 w =>
 addW 1 x2 (fun x3 w =>
 load1W x3 (fun x4 w =>
 buildSliceW [(Value.int .i64 0)] 1 [(0, 1, a1)] (fun x5 w =>
 appendW 1 8 x4 x5 (fun x6 w =>
 nilW x1 (fun x7 w =>
 addW 1 x7 (fun x8 w =>
 storeW 1 x8 x6 (fun _ w =>
 K (Value.tuple #[]) w) w) w) w) w) w) w) w) w) w

theorem Q_levels_Levels_Free (a0 a1 : Value) (K : KV) : S_levels_Levels_Free a0 a1 K = P_levels_Levels_Free a0 a1 K := by
  unfold S_levels_Levels_Free P_levels_Levels_Free
  generalize @CP = y_CP
  generalize @addW = y_addW
  generalize @appendW = y_appendW
  generalize @buildSliceW = y_buildSliceW
  generalize @load1W = y_load1W
  generalize @nilW = y_nilW
  generalize @storeW = y_storeW
  rfl

/-- draft_Draft_Name -/
def P_draft_Draft_Name (a0 a1 : Value) (K : KV) : World → Prop := fun w =>
 binIntW .geq a1 (Value.int .u64 2147483648) (fun x1 w =>
 condP x1 (fun w => CP Try.prog Fn.draft_Draft_Fail [a0, (Value.int .i64 2)] (fun x2 w =>
 K (Value.int .i64 0) w) w) (fun w => convW .i64 a1 (fun x3 w =>
 K x3 w) w) w) w

theorem Q_draft_Draft_Name (a0 a1 : Value) (K : KV) : S_draft_Draft_Name a0 a1 K = P_draft_Draft_Name a0 a1 K := by
  unfold S_draft_Draft_Name P_draft_Draft_Name
  generalize @CP = y_CP
  generalize @binIntW = y_binIntW
  generalize @condP = y_condP
  generalize @convW = y_convW
  rfl

/-- levels_Levels_Put -/
def P_levels_Levels_Put (a0 a1 a2 : Value) (K : KV) : World → Prop := fun w =>
 binIntW .lss a1 (Value.int .i64 1) (fun x1 w =>
 gW x1 false (fun K w => K a1 w) (fun x2 w =>
 gW x1 false (fun K w => binIntW .geq x2 (Value.int .i64 256) K w) (fun x3 w =>
 pickW x1 (Value.bool true) x3 (fun x4 w =>
 condP x4 (fun w => K (Value.int .i64 2) w) (fun w => CP Try.prog Fn.levels_Levels_in [a0] (fun x5 w =>
 nilW x5 (fun x6 w =>
 addW 0 x6 (fun x7 w =>
 load1W x7 (fun x8 w =>
 CP Try.prog Fn.writes_Writes_Get [x8, a1] (fun x9 w =>
 extractW 0 x9 (fun x10 w =>
 extractW 1 x9 (fun x11 w =>
 notW x11 (fun x12 w =>
 gW x12 true (fun K w => K a0 w) (fun x13 w =>
 gW x12 true (fun K w => CP Try.prog Fn.levels_Levels_Room [x13] K w) (fun x14 w =>
 gW x12 true (fun K w => binIntW .eql x14 (Value.int .i64 0) K w) (fun x15 w =>
 pickW x12 x15 (Value.bool false) (fun x16 w =>
 condP x16 (fun w => K (Value.int .i64 5) w) (fun w => CP Try.prog Fn.writes_Writes_Put [x8, a1, a2] (fun x17 w =>
 K x17 w) w) w) w) w) w) w) w) w) w) w) w) w) w) w) w) w) w) w) w

theorem Q_levels_Levels_Put (a0 a1 a2 : Value) (K : KV) : S_levels_Levels_Put a0 a1 a2 K = P_levels_Levels_Put a0 a1 a2 K := by
  unfold S_levels_Levels_Put P_levels_Levels_Put
  generalize @CP = y_CP
  generalize @addW = y_addW
  generalize @binIntW = y_binIntW
  generalize @condP = y_condP
  generalize @extractW = y_extractW
  generalize @gW = y_gW
  generalize @load1W = y_load1W
  generalize @nilW = y_nilW
  generalize @notW = y_notW
  generalize @pickW = y_pickW
  rfl

/-- arena_Free -/
def P_arena_Free (a0 a1 : Value) (K : KV) : World → Prop := fun w =>
 CP Try.prog Fn.arena_asked [a0, a1] (fun x1 w =>
 extractW 0 x1 (fun x2 w =>
 extractW 1 x1 (fun x3 w =>
 extractW 2 x1 (fun x4 w =>
 binIntW .eql x4 (Value.int .i64 0) (fun x5 w =>
 gW x5 true (fun K w => K x3 w) (fun x6 w =>
 gW x5 true (fun K w => notW x6 K w) (fun x7 w =>
 pickW x5 x7 (Value.bool false) (fun x8 w =>
 joinW1 (fun x9 w =>
 binIntW .eql x9 (Value.int .i64 0) (fun x10 w =>
 joinW1 (fun x11 w =>
 binIntW .eql x11 (Value.int .i64 0) (fun x12 w =>
 joinW0 (fun  w =>
 K x11 w) (fun j3 w =>
 condP x12 (fun w => CP Try.prog Fn.view_View_Free [a0, a1] (fun x13 w =>
 j3  w) w) (fun w => j3  w) w) w) w) (fun j2 w =>
 condP x10 (fun w => binIntW .sub a1 (Value.int .i64 1) (fun x14 w =>
 convW .u64 x2 (fun x15 w =>
 buildW [(Value.int .i64 0), (Value.int .u64 0)] [(0, 1, x14), (1, 1, x15)] (fun x16 w =>
 buildSliceW [(Value.int .i64 0), (Value.int .u64 0)] 1 [(0, 2, x16)] (fun x17 w =>
 CP Try.prog Fn.view_View_Take [a0, x17] (fun x18 w =>
 j2 x18 w) w) w) w) w) w) (fun w => j2 x9 w) w) w) w) (fun j1 w =>
 condP x8 (fun w => j1 (Value.int .i64 2) w) (fun w => j1 x4 w) w) w) w) w) w) w) w) w) w) w

theorem Q_arena_Free (a0 a1 : Value) (K : KV) : S_arena_Free a0 a1 K = P_arena_Free a0 a1 K := by
  unfold S_arena_Free P_arena_Free
  generalize @CP = y_CP
  generalize @binIntW = y_binIntW
  generalize @buildSliceW = y_buildSliceW
  generalize @buildW = y_buildW
  generalize @condP = y_condP
  generalize @convW = y_convW
  generalize @extractW = y_extractW
  generalize @gW = y_gW
  generalize @joinW0 = y_joinW0
  generalize @joinW1 = y_joinW1
  generalize @notW = y_notW
  generalize @pickW = y_pickW
  rfl

/-- arena_Class -/
def P_arena_Class (a0 : Value) (K : KV) : World → Prop := fun w =>
 binIntW .lss a0 (Value.int .i64 1) (fun x1 w =>
 condP x1 (fun w => K (Value.int .i64 0) w) (fun w => loopW1 (Value.int .i64 1) (fun J1 x2 w =>
 binIntW .leq x2 (Value.int .i64 4) (fun x3 w =>
 condP x3 (fun w => CP Try.prog Fn.arena_Size [x2] (fun x4 w =>
 binIntW .geq x4 a0 (fun x5 w =>
 condP x5 (fun w => K x2 w) (fun w => binIntW .add x2 (Value.int .i64 1) (fun x6 w =>
 J1 x6 w) w) w) w) w) (fun w => K (Value.int .i64 0) w) w) w) w) w) w

theorem Q_arena_Class (a0 : Value) (K : KV) : S_arena_Class a0 K = P_arena_Class a0 K := by
  unfold S_arena_Class P_arena_Class
  generalize @CP = y_CP
  generalize @binIntW = y_binIntW
  generalize @condP = y_condP
  generalize @loopW1 = y_loopW1
  rfl

/-- arena_head -/
def P_arena_head (a0 : Value) (K : KV) : World → Prop := fun w =>
 binIntW .add (Value.int .i64 0) a0 (fun x1 w =>
 K x1 w) w

theorem Q_arena_head (a0 : Value) (K : KV) : S_arena_head a0 K = P_arena_head a0 K := by
  unfold S_arena_head P_arena_head
  generalize @binIntW = y_binIntW
  rfl

/-- arena_again -/
def P_arena_again (a0 a1 a2 : Value) (K : KV) : World → Prop := fun w =>
 binIntW .geq a2 (Value.int .u64 2147483648) (fun x1 w =>
 condP x1 (fun w => K (Value.tuple #[(Value.int .i64 0), (Value.int .i64 2)]) w) (fun w => convW .i64 a2 (fun x2 w =>
 CP Try.prog Fn.view_View_Read [a0, x2] (fun x3 w =>
 extractW 0 x3 (fun x4 w =>
 extractW 1 x3 (fun x5 w =>
 binIntW .eql x5 (Value.int .i64 0) (fun x6 w =>
 joinW1 (fun x7 w =>
 binIntW .neq x7 (Value.int .i64 0) (fun x8 w =>
 condP x8 (fun w => K (Value.tuple #[(Value.int .i64 0), x7]) w) (fun w => K (Value.tuple #[x2, (Value.int .i64 0)]) w) w) w) (fun j1 w =>
 condP x6 (fun w => CP Try.prog Fn.arena_head [a1] (fun x9 w =>
 buildW [(Value.int .i64 0), (Value.int .u64 0)] [(0, 1, x9), (1, 1, x4)] (fun x10 w =>
 binIntW .sub x2 (Value.int .i64 1) (fun x11 w =>
 binIntW .add a1 (Value.int .i64 8) (fun x12 w =>
 convW .u64 x12 (fun x13 w =>
 buildW [(Value.int .i64 0), (Value.int .u64 0)] [(0, 1, x11), (1, 1, x13)] (fun x14 w =>
 buildSliceW [(Value.int .i64 0), (Value.int .u64 0)] 2 [(0, 2, x10), (2, 2, x14)] (fun x15 w =>
 CP Try.prog Fn.view_View_Take [a0, x15] (fun x16 w =>
 j1 x16 w) w) w) w) w) w) w) w) w) (fun w => j1 x5 w) w) w) w) w) w) w) w) w) w

theorem Q_arena_again (a0 a1 a2 : Value) (K : KV) : S_arena_again a0 a1 a2 K = P_arena_again a0 a1 a2 K := by
  unfold S_arena_again P_arena_again
  generalize @CP = y_CP
  generalize @binIntW = y_binIntW
  generalize @buildSliceW = y_buildSliceW
  generalize @buildW = y_buildW
  generalize @condP = y_condP
  generalize @convW = y_convW
  generalize @extractW = y_extractW
  generalize @joinW1 = y_joinW1
  rfl

/-- arena_grown -/
def P_arena_grown (a0 a1 : Value) (K : KV) : World → Prop := fun w =>
 CP Try.prog Fn.view_View_Read [a0, (Value.int .i64 5)] (fun x1 w =>
 extractW 0 x1 (fun x2 w =>
 extractW 1 x1 (fun x3 w =>
 binIntW .neq x3 (Value.int .i64 0) (fun x4 w =>
 condP x4 (fun w => K (Value.tuple #[(Value.int .i64 0), x3]) w) (fun w => binIntW .lss x2 (Value.int .u64 14) (fun x5 w =>
 gW x5 false (fun K w => K x2 w) (fun x6 w =>
 gW x5 false (fun K w => binIntW .geq x6 (Value.int .u64 2147483648) K w) (fun x7 w =>
 pickW x5 (Value.bool true) x7 (fun x8 w =>
 gW x8 false (fun K w => K x2 w) (fun x9 w =>
 gW x8 false (fun K w => convW .i64 x9 K w) (fun x10 w =>
 gW x8 false (fun K w => binIntW .add x10 (Value.int .i64 1) K w) (fun x11 w =>
 gW x8 false (fun K w => K a1 w) (fun x12 w =>
 gW x8 false (fun K w => CP Try.prog Fn.arena_Size [x12] K w) (fun x13 w =>
 gW x8 false (fun K w => binIntW .add x11 x13 K w) (fun x14 w =>
 gW x8 false (fun K w => K a0 w) (fun x15 w =>
 gW x8 false (fun K w => CP Try.prog Fn.view_View_Size [x15] K w) (fun x16 w =>
 gW x8 false (fun K w => binIntW .gtr x14 x16 K w) (fun x17 w =>
 pickW x8 (Value.bool true) x17 (fun x18 w =>
 condP x18 (fun w => K (Value.tuple #[(Value.int .i64 0), (Value.int .i64 4)]) w) (fun w => convW .i64 x2 (fun x19 w =>
 binIntW .add x19 (Value.int .i64 1) (fun x20 w =>
 CP Try.prog Fn.arena_Size [a1] (fun x21 w =>
 binIntW .add x20 x21 (fun x22 w =>
 convW .u64 x22 (fun x23 w =>
 buildW [(Value.int .i64 0), (Value.int .u64 0)] [(0, 1, (Value.int .i64 5)), (1, 1, x23)] (fun x24 w =>
 binIntW .add a1 (Value.int .i64 8) (fun x25 w =>
 convW .u64 x25 (fun x26 w =>
 buildW [(Value.int .i64 0), (Value.int .u64 0)] [(0, 1, x19), (1, 1, x26)] (fun x27 w =>
 buildSliceW [(Value.int .i64 0), (Value.int .u64 0)] 2 [(0, 2, x24), (2, 2, x27)] (fun x28 w =>
 CP Try.prog Fn.view_View_Take [a0, x28] (fun x29 w =>
 binIntW .neq x29 (Value.int .i64 0) (fun x30 w =>
 condP x30 (fun w => K (Value.tuple #[(Value.int .i64 0), x29]) w) (fun w => binIntW .add x19 (Value.int .i64 1) (fun x31 w =>
 K (Value.tuple #[x31, (Value.int .i64 0)]) w) w) w) w) w) w) w) w) w) w) w) w) w) w) w) w) w) w) w) w) w) w) w) w) w) w) w) w) w) w) w) w) w) w) w

theorem Q_arena_grown (a0 a1 : Value) (K : KV) : S_arena_grown a0 a1 K = P_arena_grown a0 a1 K := by
  unfold S_arena_grown P_arena_grown
  generalize @CP = y_CP
  generalize @binIntW = y_binIntW
  generalize @buildSliceW = y_buildSliceW
  generalize @buildW = y_buildW
  generalize @condP = y_condP
  generalize @convW = y_convW
  generalize @extractW = y_extractW
  generalize @gW = y_gW
  generalize @pickW = y_pickW
  rfl

/-- slices_insertionSortCmpFunc_api_Pair -/
def P_slices_insertionSortCmpFunc_api_Pair (a0 a1 a2 a3 : Value) (K : KV) : World → Prop := fun w =>
 binIntW .add a1 (Value.int .i64 1) (fun x1 w =>
 loopW1 x1 (fun J1 x2 w =>
 binIntW .lss x2 a2 (fun x3 w =>
 condP x3 (fun w => loopW1 x2 (fun J2 x4 w =>
 drewW (fun w => binIntW .gtr x4 a1 (fun x5 w =>
 gW x5 true (fun K w => K a3 w) (fun x6 w =>
 gW x5 true (fun K w => K a0 w) (fun x7 w =>
 gW x5 true (fun K w => K x4 w) (fun x8 w =>
 gW x5 true (fun K w => idxW 2 x7 x8 K w) (fun x9 w =>
 gW x5 true (fun K w => loadNW 2 x9 K w) (fun x10 w =>
 gW x5 true (fun K w => K a0 w) (fun x11 w =>
 gW x5 true (fun K w => K x4 w) (fun x12 w =>
 gW x5 true (fun K w => binIntW .sub x12 (Value.int .i64 1) K w) (fun x13 w =>
 gW x5 true (fun K w => idxW 2 x11 x13 K w) (fun x14 w =>
 gW x5 true (fun K w => loadNW 2 x14 K w) (fun x15 w =>
 gW x5 true (fun K w => dynW Try.prog x6 [x10, x15] K w) (fun x16 w =>
 andP (fun w => andP (fun w => trueP w) (fun w => andP (fun w => trueP w) (fun w => trueP w) w) w) (fun w =>
 gW x5 true (fun K w => binIntW .lss x16 (Value.int .i64 0) K w) (fun x17 w =>
 pickW x5 x17 (Value.bool false) (fun x18 w =>
 condP x18 (fun w => drewW (fun w => binIntW .sub x4 (Value.int .i64 1) (fun x19 w =>
 binIntW .sub x4 (Value.int .i64 1) (fun x20 w =>
 idxW 2 a0 x20 (fun x21 w =>
 loadNW 2 x21 (fun x22 w =>
 idxW 2 a0 x4 (fun x23 w =>
 loadNW 2 x23 (fun x24 w =>
 idxW 2 a0 x4 (fun x25 w =>
 storeW 2 x25 x22 (fun _ w =>
 andP (fun w => andP (fun w => trueP w) (fun w => andP (fun w => trueP w) (fun w => trueP w) w) w) (fun w =>
 idxW 2 a0 x19 (fun x27 w =>
 storeW 2 x27 x24 (fun _ w =>
 andP (fun w => trueP w) (fun w =>
 binIntW .sub x4 (Value.int .i64 1) (fun x29 w =>
 J2 x29 w) w) w) w) w) w) w) w) w) w) w) w) w) w) w) (fun w => binIntW .add x2 (Value.int .i64 1) (fun x30 w =>
 J1 x30 w) w) w) w) w) w) w) w) w) w) w) w) w) w) w) w) w) w) w) w) (fun w => K (Value.tuple #[]) w) w) w) w) w

theorem Q_slices_insertionSortCmpFunc_api_Pair (a0 a1 a2 a3 : Value) (K : KV) : S_slices_insertionSortCmpFunc_api_Pair a0 a1 a2 a3 K = P_slices_insertionSortCmpFunc_api_Pair a0 a1 a2 a3 K := by
  unfold S_slices_insertionSortCmpFunc_api_Pair P_slices_insertionSortCmpFunc_api_Pair
  generalize @andP = y_andP
  generalize @binIntW = y_binIntW
  generalize @condP = y_condP
  generalize @drewW = y_drewW
  generalize @dynW = y_dynW
  generalize @gW = y_gW
  generalize @idxW = y_idxW
  generalize @loadNW = y_loadNW
  generalize @loopW1 = y_loopW1
  generalize @pickW = y_pickW
  generalize @storeW = y_storeW
  rfl

/-- slices_insertionSortOrdered_int -/
def P_slices_insertionSortOrdered_int (a0 a1 a2 : Value) (K : KV) : World → Prop := fun w =>
 binIntW .add a1 (Value.int .i64 1) (fun x1 w =>
 loopW1 x1 (fun J1 x2 w =>
 binIntW .lss x2 a2 (fun x3 w =>
 condP x3 (fun w => loopW1 x2 (fun J2 x4 w =>
 drewW (fun w => binIntW .gtr x4 a1 (fun x5 w =>
 gW x5 true (fun K w => K a0 w) (fun x6 w =>
 gW x5 true (fun K w => K x4 w) (fun x7 w =>
 gW x5 true (fun K w => idxW 1 x6 x7 K w) (fun x8 w =>
 gW x5 true (fun K w => load1W x8 K w) (fun x9 w =>
 gW x5 true (fun K w => K a0 w) (fun x10 w =>
 gW x5 true (fun K w => K x4 w) (fun x11 w =>
 gW x5 true (fun K w => binIntW .sub x11 (Value.int .i64 1) K w) (fun x12 w =>
 gW x5 true (fun K w => idxW 1 x10 x12 K w) (fun x13 w =>
 gW x5 true (fun K w => load1W x13 K w) (fun x14 w =>
 gW x5 true (fun K w => CP Try.prog Fn.cmp_Less_int [x9, x14] K w) (fun x15 w =>
 andP (fun w => andP (fun w => trueP w) (fun w => andP (fun w => trueP w) (fun w => trueP w) w) w) (fun w =>
 pickW x5 x15 (Value.bool false) (fun x16 w =>
 condP x16 (fun w => drewW (fun w => binIntW .sub x4 (Value.int .i64 1) (fun x17 w =>
 binIntW .sub x4 (Value.int .i64 1) (fun x18 w =>
 idxW 1 a0 x18 (fun x19 w =>
 load1W x19 (fun x20 w =>
 idxW 1 a0 x4 (fun x21 w =>
 load1W x21 (fun x22 w =>
 idxW 1 a0 x4 (fun x23 w =>
 storeW 1 x23 x20 (fun _ w =>
 andP (fun w => andP (fun w => trueP w) (fun w => andP (fun w => trueP w) (fun w => trueP w) w) w) (fun w =>
 idxW 1 a0 x17 (fun x25 w =>
 storeW 1 x25 x22 (fun _ w =>
 andP (fun w => trueP w) (fun w =>
 binIntW .sub x4 (Value.int .i64 1) (fun x27 w =>
 J2 x27 w) w) w) w) w) w) w) w) w) w) w) w) w) w) w) (fun w => binIntW .add x2 (Value.int .i64 1) (fun x28 w =>
 J1 x28 w) w) w) w) w) w) w) w) w) w) w) w) w) w) w) w) w) w) (fun w => K (Value.tuple #[]) w) w) w) w) w

theorem Q_slices_insertionSortOrdered_int (a0 a1 a2 : Value) (K : KV) : S_slices_insertionSortOrdered_int a0 a1 a2 K = P_slices_insertionSortOrdered_int a0 a1 a2 K := by
  unfold S_slices_insertionSortOrdered_int P_slices_insertionSortOrdered_int
  generalize @CP = y_CP
  generalize @andP = y_andP
  generalize @binIntW = y_binIntW
  generalize @condP = y_condP
  generalize @drewW = y_drewW
  generalize @gW = y_gW
  generalize @idxW = y_idxW
  generalize @load1W = y_load1W
  generalize @loopW1 = y_loopW1
  generalize @pickW = y_pickW
  generalize @storeW = y_storeW
  rfl

/-- cmp_Less_int -/
def P_cmp_Less_int (a0 a1 : Value) (K : KV) : World → Prop := fun w =>
 CP Try.prog Fn.cmp_isNaN_int [a0] (fun x1 w =>
 gW x1 true (fun K w => K a1 w) (fun x2 w =>
 gW x1 true (fun K w => CP Try.prog Fn.cmp_isNaN_int [x2] K w) (fun x3 w =>
 gW x1 true (fun K w => notW x3 K w) (fun x4 w =>
 pickW x1 x4 (Value.bool false) (fun x5 w =>
 gW x5 false (fun K w => K a0 w) (fun x6 w =>
 gW x5 false (fun K w => K a1 w) (fun x7 w =>
 gW x5 false (fun K w => binIntW .lss x6 x7 K w) (fun x8 w =>
 pickW x5 (Value.bool true) x8 (fun x9 w =>
 K x9 w) w) w) w) w) w) w) w) w) w

theorem Q_cmp_Less_int (a0 a1 : Value) (K : KV) : S_cmp_Less_int a0 a1 K = P_cmp_Less_int a0 a1 K := by
  unfold S_cmp_Less_int P_cmp_Less_int
  generalize @CP = y_CP
  generalize @binIntW = y_binIntW
  generalize @gW = y_gW
  generalize @notW = y_notW
  generalize @pickW = y_pickW
  rfl

/-- slices_isNaN_int -/
def P_slices_isNaN_int (a0 : Value) (K : KV) : World → Prop := fun w =>
 binIntW .neq a0 a0 (fun x1 w =>
 K x1 w) w

theorem Q_slices_isNaN_int (a0 : Value) (K : KV) : S_slices_isNaN_int a0 K = P_slices_isNaN_int a0 K := by
  unfold S_slices_isNaN_int P_slices_isNaN_int
  generalize @binIntW = y_binIntW
  rfl

/-- lock_Is -/
def P_lock_Is (a0 : Value) (K : KV) : World → Prop := fun w =>
 boxW a0 (fun x1 w =>
 addW 1 x1 (fun x2 w =>
 load1W x2 (fun x3 w =>
 condP x3 (fun w => addW 0 x1 (fun x4 w =>
 load1W x4 (fun x5 w =>
 binIntW .lss x5 (Value.int .u64 4611686018427387904) (fun x6 w =>
 gW x6 true (fun K w => addW 2 x1 K w) (fun x7 w =>
 gW x6 true (fun K w => load1W x7 K w) (fun x8 w =>
 gW x6 true (fun K w => CP Try.prog Fn.lock_owns [x8] K w) (fun x9 w =>
 pickW x6 x9 (Value.bool false) (fun x10 w =>
 K x10 w) w) w) w) w) w) w) w) (fun w => addW 0 x1 (fun x11 w =>
 load1W x11 (fun x12 w =>
 binIntW .lss x12 (Value.int .u64 4611686018427387904) (fun x13 w =>
 gW x13 true (fun K w => addW 2 x1 K w) (fun x14 w =>
 gW x13 true (fun K w => load1W x14 K w) (fun x15 w =>
 gW x13 true (fun K w => binIntW .eql x15 (Value.int .i64 0) K w) (fun x16 w =>
 pickW x13 x16 (Value.bool false) (fun x17 w =>
 K x17 w) w) w) w) w) w) w) w) w) w) w) w

theorem Q_lock_Is (a0 : Value) (K : KV) : S_lock_Is a0 K = P_lock_Is a0 K := by
  unfold S_lock_Is P_lock_Is
  generalize @CP = y_CP
  generalize @addW = y_addW
  generalize @binIntW = y_binIntW
  generalize @boxW = y_boxW
  generalize @condP = y_condP
  generalize @gW = y_gW
  generalize @load1W = y_load1W
  generalize @pickW = y_pickW
  rfl

/-- writes_New -/
def P_writes_New (a0 : Value) (K : KV) : World → Prop := fun w =>
 minW a0 [(Value.int .i64 96)] (fun x1 w =>
 maxW (Value.int .i64 0) [x1] (fun x2 w =>
 buildW [(Value.int .i64 0), (Value.slice none 0 0)] [(0, 1, x2)] (fun x3 w =>
 boxW x3 (fun x4 w =>
 K x4 w) w) w) w) w

theorem Q_writes_New (a0 : Value) (K : KV) : S_writes_New a0 K = P_writes_New a0 K := by
  unfold S_writes_New P_writes_New
  generalize @boxW = y_boxW
  generalize @buildW = y_buildW
  generalize @maxW = y_maxW
  generalize @minW = y_minW
  rfl

/-- slices_Backward_levels_level_levels_level -/
def P_slices_Backward_levels_level_levels_level (a0 : Value) (K : KV) : World → Prop := fun w =>
 boxW a0 (fun x1 w =>
 K (Value.func (.func Fn.slices_Backward_levels_level_levels_level_1) #[] #[x1]) w) w

theorem Q_slices_Backward_levels_level_levels_level (a0 : Value) (K : KV) : S_slices_Backward_levels_level_levels_level a0 K = P_slices_Backward_levels_level_levels_level a0 K := by
  unfold S_slices_Backward_levels_level_levels_level P_slices_Backward_levels_level_levels_level
  generalize @boxW = y_boxW
  rfl

/-- writes_Writes_Get -/
def P_writes_Writes_Get (a0 a1 : Value) (K : KV) : World → Prop := fun w =>
 CP Try.prog Fn.writes_Writes_find [a0, a1] (fun x1 w =>
 binIntW .geq x1 (Value.int .i64 0) (fun x2 w =>
 condP x2 (fun w => nilW a0 (fun x3 w =>
 addW 1 x3 (fun x4 w =>
 load1W x4 (fun x5 w =>
 idxW 2 x5 x1 (fun x6 w =>
 addW 1 x6 (fun x7 w =>
 load1W x7 (fun x8 w =>
 K (Value.tuple #[x8, (Value.bool true)]) w) w) w) w) w) w) w) (fun w => K (Value.tuple #[(Value.int .u64 0), (Value.bool false)]) w) w) w) w

theorem Q_writes_Writes_Get (a0 a1 : Value) (K : KV) : S_writes_Writes_Get a0 a1 K = P_writes_Writes_Get a0 a1 K := by
  unfold S_writes_Writes_Get P_writes_Writes_Get
  generalize @CP = y_CP
  generalize @addW = y_addW
  generalize @binIntW = y_binIntW
  generalize @condP = y_condP
  generalize @idxW = y_idxW
  generalize @load1W = y_load1W
  generalize @nilW = y_nilW
  rfl

/-- writes_Writes_Take -/
def P_writes_Writes_Take (a0 a1 : Value) (K : KV) : World → Prop := fun w =>
 CP Try.prog Fn.writes_Writes_All [a0] (fun x1 w =>
 lenW a1 (fun x2 w =>
 loopW1 (Value.int .i64 0) (fun J1 x3 w =>
 binIntW .lss x3 x2 (fun x4 w =>
 condP x4 (fun w => idxW 2 a1 x3 (fun x5 w =>
 loadNW 2 x5 (fun x6 w =>
 newW #[(Value.int .i64 0), (Value.int .u64 0)] (fun x7 w =>
 storeW 2 x7 x6 (fun _ w =>
 addW 0 x7 (fun x9 w =>
 load1W x9 (fun x10 w =>
 addW 1 x7 (fun x11 w =>
 load1W x11 (fun x12 w =>
 CP Try.prog Fn.writes_Writes_Put [a0, x10, x12] (fun x13 w =>
 binIntW .neq x13 (Value.int .i64 0) (fun x14 w =>
 condP x14 (fun w => nilW a0 (fun x15 w =>
 addW 1 x15 (fun x16 w =>
 storeW 1 x16 x1 (fun _ w =>
 K x13 w) w) w) w) (fun w => binIntW .add x3 (Value.int .i64 1) (fun x18 w =>
 J1 x18 w) w) w) w) w) w) w) w) w) w) w) w) w) (fun w => K (Value.int .i64 0) w) w) w) w) w) w

theorem Q_writes_Writes_Take (a0 a1 : Value) (K : KV) : S_writes_Writes_Take a0 a1 K = P_writes_Writes_Take a0 a1 K := by
  unfold S_writes_Writes_Take P_writes_Writes_Take
  generalize @CP = y_CP
  generalize @addW = y_addW
  generalize @binIntW = y_binIntW
  generalize @condP = y_condP
  generalize @idxW = y_idxW
  generalize @lenW = y_lenW
  generalize @load1W = y_load1W
  generalize @loadNW = y_loadNW
  generalize @loopW1 = y_loopW1
  generalize @newW = y_newW
  generalize @nilW = y_nilW
  generalize @storeW = y_storeW
  rfl

/-- levels_Levels_in -/
def P_levels_Levels_in (a0 : Value) (K : KV) : World → Prop := fun w =>
 drewW (fun w => nilW a0 (fun x1 w =>
 addW 1 x1 (fun x2 w =>
 load1W x2 (fun x3 w =>
 nilW a0 (fun x4 w =>
 addW 1 x4 (fun x5 w =>
 load1W x5 (fun x6 w =>
 lenW x6 (fun x7 w =>
 binIntW .sub x7 (Value.int .i64 1) (fun x8 w =>
 idxW 1 x3 x8 (fun x9 w =>
 load1W x9 (fun x10 w =>
 K x10 w) w) w) w) w) w) w) w) w) w) w) w

theorem Q_levels_Levels_in (a0 : Value) (K : KV) : S_levels_Levels_in a0 K = P_levels_Levels_in a0 K := by
  unfold S_levels_Levels_in P_levels_Levels_in
  generalize @addW = y_addW
  generalize @binIntW = y_binIntW
  generalize @drewW = y_drewW
  generalize @idxW = y_idxW
  generalize @lenW = y_lenW
  generalize @load1W = y_load1W
  generalize @nilW = y_nilW
  rfl

/-- writes_Writes_All -/
def P_writes_Writes_All (a0 : Value) (K : KV) : World → Prop := fun w =>
 nilW a0 (fun x1 w =>
 addW 1 x1 (fun x2 w =>
 load1W x2 (fun x3 w =>
 CP Try.prog Fn.slices_Clone_api_Cell_api_Cell [x3] (fun x4 w =>
 K x4 w) w) w) w) w

theorem Q_writes_Writes_All (a0 : Value) (K : KV) : S_writes_Writes_All a0 K = P_writes_Writes_All a0 K := by
  unfold S_writes_Writes_All P_writes_Writes_All
  generalize @CP = y_CP
  generalize @addW = y_addW
  generalize @load1W = y_load1W
  generalize @nilW = y_nilW
  rfl

/-- levels_Levels_Room -/
def P_levels_Levels_Room (a0 : Value) (K : KV) : World → Prop := fun w =>
 nilW a0 (fun x1 w =>
 addW 0 x1 (fun x2 w =>
 load1W x2 (fun x3 w =>
 nilW a0 (fun x4 w =>
 addW 1 x4 (fun x5 w =>
 load1W x5 (fun x6 w =>
 lenW x6 (fun x7 w =>
 loopW2 x3 (Value.int .i64 0) (fun J1 x8 x9 w =>
 binIntW .lss x9 x7 (fun x10 w =>
 condP x10 (fun w => idxW 1 x6 x9 (fun x11 w =>
 load1W x11 (fun x12 w =>
 nilW x12 (fun x13 w =>
 addW 0 x13 (fun x14 w =>
 load1W x14 (fun x15 w =>
 CP Try.prog Fn.writes_Writes_Len [x15] (fun x16 w =>
 binIntW .sub x8 x16 (fun x17 w =>
 binIntW .add x9 (Value.int .i64 1) (fun x18 w =>
 J1 x17 x18 w) w) w) w) w) w) w) w) w) (fun w => K x8 w) w) w) w) w) w) w) w) w) w) w

theorem Q_levels_Levels_Room (a0 : Value) (K : KV) : S_levels_Levels_Room a0 K = P_levels_Levels_Room a0 K := by
  unfold S_levels_Levels_Room P_levels_Levels_Room
  generalize @CP = y_CP
  generalize @addW = y_addW
  generalize @binIntW = y_binIntW
  generalize @condP = y_condP
  generalize @idxW = y_idxW
  generalize @lenW = y_lenW
  generalize @load1W = y_load1W
  generalize @loopW2 = y_loopW2
  generalize @nilW = y_nilW
  rfl

/-- writes_Writes_Put -/
def P_writes_Writes_Put (a0 a1 a2 : Value) (K : KV) : World → Prop := fun w =>
 binIntW .lss a1 (Value.int .i64 1) (fun x1 w =>
 gW x1 false (fun K w => K a1 w) (fun x2 w =>
 gW x1 false (fun K w => binIntW .geq x2 (Value.int .i64 256) K w) (fun x3 w =>
 pickW x1 (Value.bool true) x3 (fun x4 w =>
 condP x4 (fun w => K (Value.int .i64 2) w) (fun w => CP Try.prog Fn.writes_Writes_find [a0, a1] (fun x5 w =>
 binIntW .geq x5 (Value.int .i64 0) (fun x6 w =>
 condP x6 (fun w => nilW a0 (fun x7 w =>
 addW 1 x7 (fun x8 w =>
 load1W x8 (fun x9 w =>
 idxW 2 x9 x5 (fun x10 w =>
 addW 1 x10 (fun x11 w =>
 storeW 1 x11 a2 (fun _ w =>
 K (Value.int .i64 0) w) w) w) w) w) w) w) (fun w => drewW (fun w => nilW a0 (fun x13 w =>
 addW 1 x13 (fun x14 w =>
 load1W x14 (fun x15 w =>
 lenW x15 (fun x16 w =>
 nilW a0 (fun x17 w =>
 addW 0 x17 (fun x18 w =>
 load1W x18 (fun x19 w =>
 binIntW .geq x16 x19 (fun x20 w =>
 condP x20 (fun w => K (Value.int .i64 5) w) (fun w => nilW a0 (fun x21 w =>
 addW 1 x21 (fun x22 w =>
 load1W x22 (fun x23 w =>
 buildW [(Value.int .i64 0), (Value.int .u64 0)] [(0, 1, a1), (1, 1, a2)] (fun x24 w =>
 buildSliceW [(Value.int .i64 0), (Value.int .u64 0)] 1 [(0, 2, x24)] (fun x25 w =>
 appendW 2 16 x23 x25 (fun x26 w =>
 nilW a0 (fun x27 w =>
 addW 1 x27 (fun x28 w =>
 storeW 1 x28 x26 (fun _ w =>
 K (Value.int .i64 0) w) w) w) w) w) w) w) w) w) w) w) w) w) w) w) w) w) w) w) w) w) w) w) w) w) w) w) w

theorem Q_writes_Writes_Put (a0 a1 a2 : Value) (K : KV) : S_writes_Writes_Put a0 a1 a2 K = P_writes_Writes_Put a0 a1 a2 K := by
  unfold S_writes_Writes_Put P_writes_Writes_Put
  generalize @CP = y_CP
  generalize @addW = y_addW
  generalize @appendW = y_appendW
  generalize @binIntW = y_binIntW
  generalize @buildSliceW = y_buildSliceW
  generalize @buildW = y_buildW
  generalize @condP = y_condP
  generalize @drewW = y_drewW
  generalize @gW = y_gW
  generalize @idxW = y_idxW
  generalize @lenW = y_lenW
  generalize @load1W = y_load1W
  generalize @nilW = y_nilW
  generalize @pickW = y_pickW
  generalize @storeW = y_storeW
  rfl

/-- arena_asked -/
def P_arena_asked (a0 a1 : Value) (K : KV) : World → Prop := fun w =>
 binIntW .leq a1 (Value.int .i64 14) (fun x1 w =>
 gW x1 false (fun K w => K a1 w) (fun x2 w =>
 gW x1 false (fun K w => K a0 w) (fun x3 w =>
 gW x1 false (fun K w => CP Try.prog Fn.view_View_Size [x3] K w) (fun x4 w =>
 gW x1 false (fun K w => binIntW .geq x2 x4 K w) (fun x5 w =>
 pickW x1 (Value.bool true) x5 (fun x6 w =>
 condP x6 (fun w => K (Value.tuple #[(Value.int .i64 0), (Value.bool false), (Value.int .i64 2)]) w) (fun w => binIntW .sub a1 (Value.int .i64 1) (fun x7 w =>
 CP Try.prog Fn.view_View_Read [a0, x7] (fun x8 w =>
 extractW 0 x8 (fun x9 w =>
 extractW 1 x8 (fun x10 w =>
 binIntW .neq x10 (Value.int .i64 0) (fun x11 w =>
 condP x11 (fun w => K (Value.tuple #[(Value.int .i64 0), (Value.bool false), x10]) w) (fun w => CP Try.prog Fn.arena_header [x9] (fun x12 w =>
 extractW 0 x12 (fun x13 w =>
 extractW 1 x12 (fun x14 w =>
 binIntW .eql x13 (Value.int .i64 0) (fun x15 w =>
 condP x15 (fun w => K (Value.tuple #[(Value.int .i64 0), (Value.bool false), (Value.int .i64 2)]) w) (fun w => K (Value.tuple #[x13, x14, (Value.int .i64 0)]) w) w) w) w) w) w) w) w) w) w) w) w) w) w) w) w) w) w) w

theorem Q_arena_asked (a0 a1 : Value) (K : KV) : S_arena_asked a0 a1 K = P_arena_asked a0 a1 K := by
  unfold S_arena_asked P_arena_asked
  generalize @CP = y_CP
  generalize @binIntW = y_binIntW
  generalize @condP = y_condP
  generalize @extractW = y_extractW
  generalize @gW = y_gW
  generalize @pickW = y_pickW
  rfl

/-- arena_Size -/
def P_arena_Size (a0 : Value) (K : KV) : World → Prop := fun w =>
 binIntW .lss a0 (Value.int .i64 1) (fun x1 w =>
 gW x1 false (fun K w => K a0 w) (fun x2 w =>
 gW x1 false (fun K w => binIntW .gtr x2 (Value.int .i64 4) K w) (fun x3 w =>
 pickW x1 (Value.bool true) x3 (fun x4 w =>
 condP x4 (fun w => K (Value.int .i64 0) w) (fun w => binIntW .shl (Value.int .i64 1) a0 (fun x5 w =>
 K x5 w) w) w) w) w) w) w

theorem Q_arena_Size (a0 : Value) (K : KV) : S_arena_Size a0 K = P_arena_Size a0 K := by
  unfold S_arena_Size P_arena_Size
  generalize @binIntW = y_binIntW
  generalize @condP = y_condP
  generalize @gW = y_gW
  generalize @pickW = y_pickW
  rfl

/-- slices_nextPowerOfTwo -/
def P_slices_nextPowerOfTwo (a0 : Value) (K : KV) : World → Prop := fun w =>
 convW .u64 a0 (fun x1 w =>
 CP Try.prog Fn.math_bits_Len [x1] (fun x2 w =>
 binIntW .shl (Value.int .u64 1) x2 (fun x3 w =>
 K x3 w) w) w) w

theorem Q_slices_nextPowerOfTwo (a0 : Value) (K : KV) : S_slices_nextPowerOfTwo a0 K = P_slices_nextPowerOfTwo a0 K := by
  unfold S_slices_nextPowerOfTwo P_slices_nextPowerOfTwo
  generalize @CP = y_CP
  generalize @binIntW = y_binIntW
  generalize @convW = y_convW
  rfl

/-- slices_xorshift_Next -/
def P_slices_xorshift_Next (a0 : Value) (K : KV) : World → Prop := fun w =>
 drewW (fun w => nilW a0 (fun x1 w =>
 load1W x1 (fun x2 w =>
 nilW a0 (fun x3 w =>
 load1W x3 (fun x4 w =>
 binIntW .shl x4 (Value.int .u64 13) (fun x5 w =>
 binIntW .xor x2 x5 (fun x6 w =>
 nilW a0 (fun x7 w =>
 storeW 1 x7 x6 (fun _ w =>
 andP (fun w => andP (fun w => trueP w) (fun w => andP (fun w => trueP w) (fun w => trueP w) w) w) (fun w =>
 drewW (fun w => nilW a0 (fun x9 w =>
 load1W x9 (fun x10 w =>
 nilW a0 (fun x11 w =>
 load1W x11 (fun x12 w =>
 binIntW .shr x12 (Value.int .u64 7) (fun x13 w =>
 binIntW .xor x10 x13 (fun x14 w =>
 nilW a0 (fun x15 w =>
 storeW 1 x15 x14 (fun _ w =>
 andP (fun w => andP (fun w => trueP w) (fun w => andP (fun w => trueP w) (fun w => trueP w) w) w) (fun w =>
 drewW (fun w => nilW a0 (fun x17 w =>
 load1W x17 (fun x18 w =>
 nilW a0 (fun x19 w =>
 load1W x19 (fun x20 w =>
 binIntW .shl x20 (Value.int .u64 17) (fun x21 w =>
 binIntW .xor x18 x21 (fun x22 w =>
 nilW a0 (fun x23 w =>
 storeW 1 x23 x22 (fun _ w =>
 andP (fun w => andP (fun w => trueP w) (fun w => andP (fun w => trueP w) (fun w => trueP w) w) w) (fun w =>
 nilW a0 (fun x25 w =>
 load1W x25 (fun x26 w =>
 K x26 w) w) w) w) w) w) w) w) w) w) w) w) w) w) w) w) w) w) w) w) w) w) w) w) w) w) w) w) w) w) w) w) w

theorem Q_slices_xorshift_Next (a0 : Value) (K : KV) : S_slices_xorshift_Next a0 K = P_slices_xorshift_Next a0 K := by
  unfold S_slices_xorshift_Next P_slices_xorshift_Next
  generalize @andP = y_andP
  generalize @binIntW = y_binIntW
  generalize @drewW = y_drewW
  generalize @load1W = y_load1W
  generalize @nilW = y_nilW
  generalize @storeW = y_storeW
  rfl

/-- cmp_isNaN_int -/
def P_cmp_isNaN_int (a0 : Value) (K : KV) : World → Prop := fun w =>
 binIntW .neq a0 a0 (fun x1 w =>
 K x1 w) w

theorem Q_cmp_isNaN_int (a0 : Value) (K : KV) : S_cmp_isNaN_int a0 K = P_cmp_isNaN_int a0 K := by
  unfold S_cmp_isNaN_int P_cmp_isNaN_int
  generalize @binIntW = y_binIntW
  rfl

/-- lock_owns -/
def P_lock_owns (a0 : Value) (K : KV) : World → Prop := fun w =>
 binIntW .geq a0 (Value.int .i64 0) (fun x1 w =>
 gW x1 true (fun K w => K a0 w) (fun x2 w =>
 gW x1 true (fun K w => binIntW .lss x2 (Value.int .i64 4) K w) (fun x3 w =>
 pickW x1 x3 (Value.bool false) (fun x4 w =>
 K x4 w) w) w) w) w

theorem Q_lock_owns (a0 : Value) (K : KV) : S_lock_owns a0 K = P_lock_owns a0 K := by
  unfold S_lock_owns P_lock_owns
  generalize @binIntW = y_binIntW
  generalize @gW = y_gW
  generalize @pickW = y_pickW
  rfl

/-- slices_Backward_levels_level_levels_level_1 -/
def P_slices_Backward_levels_level_levels_level_1 (a0 a1 : Value) (K : KV) : World → Prop := fun w =>
 load1W a1 (fun x1 w =>
 lenW x1 (fun x2 w =>
 binIntW .sub x2 (Value.int .i64 1) (fun x3 w =>
 loopW1 x3 (fun J1 x4 w =>
 binIntW .geq x4 (Value.int .i64 0) (fun x5 w =>
 condP x5 (fun w => load1W a1 (fun x6 w =>
 idxW 1 x6 x4 (fun x7 w =>
 load1W x7 (fun x8 w =>
 dynW Try.prog a0 [x4, x8] (fun x9 w =>
 notW x9 (fun x10 w =>
 condP x10 (fun w => K (Value.tuple #[]) w) (fun w => binIntW .sub x4 (Value.int .i64 1) (fun x11 w =>
 J1 x11 w) w) w) w) w) w) w) w) (fun w => K (Value.tuple #[]) w) w) w) w) w) w) w

theorem Q_slices_Backward_levels_level_levels_level_1 (a0 a1 : Value) (K : KV) : S_slices_Backward_levels_level_levels_level_1 a0 a1 K = P_slices_Backward_levels_level_levels_level_1 a0 a1 K := by
  unfold S_slices_Backward_levels_level_levels_level_1 P_slices_Backward_levels_level_levels_level_1
  generalize @binIntW = y_binIntW
  generalize @condP = y_condP
  generalize @dynW = y_dynW
  generalize @idxW = y_idxW
  generalize @lenW = y_lenW
  generalize @load1W = y_load1W
  generalize @loopW1 = y_loopW1
  generalize @notW = y_notW
  rfl

/-- writes_Writes_find -/
def P_writes_Writes_find (a0 a1 : Value) (K : KV) : World → Prop := fun w =>
 boxW a1 (fun x1 w =>
 nilW a0 (fun x2 w =>
 addW 1 x2 (fun x3 w =>
 load1W x3 (fun x4 w =>
 CP Try.prog Fn.slices_IndexFunc_api_Cell_api_Cell [x4, (Value.func (.func Fn.writes_Writes_find_1) #[] #[x1])] (fun x5 w =>
 K x5 w) w) w) w) w) w

theorem Q_writes_Writes_find (a0 a1 : Value) (K : KV) : S_writes_Writes_find a0 a1 K = P_writes_Writes_find a0 a1 K := by
  unfold S_writes_Writes_find P_writes_Writes_find
  generalize @CP = y_CP
  generalize @addW = y_addW
  generalize @boxW = y_boxW
  generalize @load1W = y_load1W
  generalize @nilW = y_nilW
  rfl

/-- writes_Writes_Len -/
def P_writes_Writes_Len (a0 : Value) (K : KV) : World → Prop := fun w =>
 nilW a0 (fun x1 w =>
 addW 1 x1 (fun x2 w =>
 load1W x2 (fun x3 w =>
 lenW x3 (fun x4 w =>
 K x4 w) w) w) w) w

theorem Q_writes_Writes_Len (a0 : Value) (K : KV) : S_writes_Writes_Len a0 K = P_writes_Writes_Len a0 K := by
  unfold S_writes_Writes_Len P_writes_Writes_Len
  generalize @addW = y_addW
  generalize @lenW = y_lenW
  generalize @load1W = y_load1W
  generalize @nilW = y_nilW
  rfl

/-- arena_header -/
def P_arena_header (a0 : Value) (K : KV) : World → Prop := fun w =>
 binIntW .geq a0 (Value.int .u64 1) (fun x1 w =>
 gW x1 true (fun K w => K a0 w) (fun x2 w =>
 gW x1 true (fun K w => binIntW .leq x2 (Value.int .u64 4) K w) (fun x3 w =>
 pickW x1 x3 (Value.bool false) (fun x4 w =>
 condP x4 (fun w => convW .i64 a0 (fun x5 w =>
 K (Value.tuple #[x5, (Value.bool false)]) w) w) (fun w => binIntW .geq a0 (Value.int .u64 9) (fun x6 w =>
 gW x6 true (fun K w => K a0 w) (fun x7 w =>
 gW x6 true (fun K w => binIntW .leq x7 (Value.int .u64 12) K w) (fun x8 w =>
 pickW x6 x8 (Value.bool false) (fun x9 w =>
 condP x9 (fun w => binIntW .sub a0 (Value.int .u64 8) (fun x10 w =>
 convW .i64 x10 (fun x11 w =>
 K (Value.tuple #[x11, (Value.bool true)]) w) w) w) (fun w => K (Value.tuple #[(Value.int .i64 0), (Value.bool false)]) w) w) w) w) w) w) w) w) w) w) w

theorem Q_arena_header (a0 : Value) (K : KV) : S_arena_header a0 K = P_arena_header a0 K := by
  unfold S_arena_header P_arena_header
  generalize @binIntW = y_binIntW
  generalize @condP = y_condP
  generalize @convW = y_convW
  generalize @gW = y_gW
  generalize @pickW = y_pickW
  rfl

/-- slices_IndexFunc_api_Cell_api_Cell -/
def P_slices_IndexFunc_api_Cell_api_Cell (a0 a1 : Value) (K : KV) : World → Prop := fun w =>
 lenW a0 (fun x1 w =>
 loopW1 (Value.int .i64 0) (fun J1 x2 w =>
 binIntW .lss x2 x1 (fun x3 w =>
 condP x3 (fun w => idxW 2 a0 x2 (fun x4 w =>
 loadNW 2 x4 (fun x5 w =>
 dynW Try.prog a1 [x5] (fun x6 w =>
 condP x6 (fun w => K x2 w) (fun w => binIntW .add x2 (Value.int .i64 1) (fun x7 w =>
 J1 x7 w) w) w) w) w) w) (fun w => K (Value.int .i64 (-1)) w) w) w) w) w

theorem Q_slices_IndexFunc_api_Cell_api_Cell (a0 a1 : Value) (K : KV) : S_slices_IndexFunc_api_Cell_api_Cell a0 a1 K = P_slices_IndexFunc_api_Cell_api_Cell a0 a1 K := by
  unfold S_slices_IndexFunc_api_Cell_api_Cell P_slices_IndexFunc_api_Cell_api_Cell
  generalize @binIntW = y_binIntW
  generalize @condP = y_condP
  generalize @dynW = y_dynW
  generalize @idxW = y_idxW
  generalize @lenW = y_lenW
  generalize @loadNW = y_loadNW
  generalize @loopW1 = y_loopW1
  rfl

/-- writes_Writes_find_1 -/
def P_writes_Writes_find_1 (a0 a1 : Value) (K : KV) : World → Prop := fun w =>
 boxW a0 (fun x1 w =>
 addW 0 x1 (fun x2 w =>
 load1W x2 (fun x3 w =>
 load1W a1 (fun x4 w =>
 binIntW .eql x3 x4 (fun x5 w =>
 K x5 w) w) w) w) w) w

theorem Q_writes_Writes_find_1 (a0 a1 : Value) (K : KV) : S_writes_Writes_find_1 a0 a1 K = P_writes_Writes_find_1 a0 a1 K := by
  unfold S_writes_Writes_find_1 P_writes_Writes_find_1
  generalize @addW = y_addW
  generalize @binIntW = y_binIntW
  generalize @boxW = y_boxW
  generalize @load1W = y_load1W
  rfl

end Go.Proofs.Ytokbiojkpldfeaa.S
