/-
  THE PLAIN FORMS, WITH THE WORLD NAMED AT EACH STEP, by a program.
-/
import Derived.Test.YtoealglbimbbmaaGreatDoorSForm
namespace Go.Proofs.YtoealglbimbbmaaGreatDoor.S
open Go Go.Proofs
set_option linter.unusedVariables false
set_option maxRecDepth 100000
/-- top_TopClock -/
def P_top_TopClock (a0 a1 a2 : Value) (K : KV) : World → Prop := fun w =>
 CP Tryz.prog Fn.top_awake [] (fun x1 w =>
 notW x1 (fun x2 w =>
 condP x2 (fun w => K (Value.bool false) w) (fun w => binIntW .rem a0 (Value.int .u8 5) (fun x3 w =>
 convW .i64 x3 (fun x4 w =>
 binIntW .rem a1 (Value.int .u8 6) (fun x5 w =>
 convW .i64 x5 (fun x6 w =>
 loopW2 (Value.slice none 0 0) (Value.int .i64 0) (fun J1 x7 x8 w =>
 binIntW .lss x8 (Value.int .i64 2) (fun x9 w =>
 condP x9 (fun w => loopW2 (Value.slice none 0 0) (Value.int .i64 0) (fun J2 x10 x11 w =>
 binIntW .lss x11 x6 (fun x12 w =>
 condP x12 (fun w => CP Tryz.prog Fn.top_adds [(Value.int .i64 8)] (fun x13 w =>
 buildSliceW [(Value.slice none 0 0)] 1 [(0, 1, x13)] (fun x14 w =>
 appendW 1 24 x10 x14 (fun x15 w =>
 binIntW .add x11 (Value.int .i64 1) (fun x16 w =>
 J2 x15 x16 w) w) w) w) w) (fun w => buildW [(Value.int .i64 0), (Value.int .i64 0), (Value.int .i64 0), (Value.int .i64 0), (Value.int .u64 0)] [(0, 1, (Value.int .i64 8)), (1, 1, (Value.int .i64 0)), (2, 1, (Value.int .i64 7)), (3, 1, (Value.int .i64 8))] (fun x17 w =>
 buildW [(Value.int .i64 0), (Value.int .i64 0), (Value.int .i64 0), (Value.int .i64 0), (Value.int .u64 0)] [(0, 1, (Value.int .i64 21))] (fun x18 w =>
 buildSliceW [(Value.int .i64 0), (Value.int .i64 0), (Value.int .i64 0), (Value.int .i64 0), (Value.int .u64 0)] 2 [(0, 5, x17), (5, 5, x18)] (fun x19 w =>
 buildW [(Value.slice none 0 0)] [(0, 1, x19)] (fun x20 w =>
 buildSliceW [(Value.slice none 0 0)] 1 [(0, 1, x20)] (fun x21 w =>
 appendW 1 24 x10 x21 (fun x22 w =>
 buildSliceW [(Value.slice none 0 0)] 1 [(0, 1, x22)] (fun x23 w =>
 appendW 1 24 x7 x23 (fun x24 w =>
 binIntW .add x8 (Value.int .i64 1) (fun x25 w =>
 J1 x24 x25 w) w) w) w) w) w) w) w) w) w) w) w) w) (fun w => convW .u64 x4 (fun x26 w =>
 binIntW .sub (Value.int .u64 4611686018427387903) x26 (fun x27 w =>
 buildW [(Value.int .i64 0), (Value.int .i64 0), (Value.int .i64 0), (Value.int .i64 0), (Value.int .u64 0)] [(0, 1, (Value.int .i64 40)), (1, 1, (Value.int .i64 4)), (4, 1, x27)] (fun x28 w =>
 buildW [(Value.int .i64 0), (Value.int .i64 0), (Value.int .i64 0), (Value.int .i64 0), (Value.int .u64 0), (Value.int .i64 0), (Value.int .i64 0), (Value.int .i64 0)] [(0, 5, x28), (5, 1, (Value.int .i64 2)), (6, 1, (Value.int .i64 9)), (7, 1, (Value.int .i64 20))] (fun x29 w =>
 CP Tryz.prog Fn.machine_New [x29, x7] (fun x30 w =>
 eqNilW .eql x30 (Value.pointer none) (fun x31 w =>
 gW x31 false (fun K w => K x30 w) (fun x32 w =>
 gW x31 false (fun K w => K a2 w) (fun x33 w =>
 gW x31 false (fun K w => CP Tryz.prog Fn.top_settled [x32, x33] K w) (fun x34 w =>
 gW x31 false (fun K w => notW x34 K w) (fun x35 w =>
 pickW x31 (Value.bool true) x35 (fun x36 w =>
 condP x36 (fun w => K (Value.bool false) w) (fun w => CP Tryz.prog Fn.machine_Machine_Words [x30] (fun x37 w =>
 loopW2 (Value.int .i64 0) (Value.int .i64 0) (fun J3 x38 x39 w =>
 binIntW .lss x39 (Value.int .i64 2) (fun x40 w =>
 condP x40 (fun w => CP Tryz.prog Fn.machine_Machine_Results [x30, x39] (fun x41 w =>
 lenW x41 (fun x42 w =>
 binIntW .add x6 (Value.int .i64 1) (fun x43 w =>
 binIntW .neq x42 x43 (fun x44 w =>
 gW x44 false (fun K w => K x41 w) (fun x45 w =>
 gW x44 false (fun K w => K x6 w) (fun x46 w =>
 gW x44 false (fun K w => idxW 4 x45 x46 K w) (fun x47 w =>
 gW x44 false (fun K w => addW 0 x47 K w) (fun x48 w =>
 gW x44 false (fun K w => load1W x48 K w) (fun x49 w =>
 gW x44 false (fun K w => binIntW .neq x49 (Value.int .i64 2) K w) (fun x50 w =>
 pickW x44 (Value.bool true) x50 (fun x51 w =>
 condP x51 (fun w => K (Value.bool false) w) (fun w => loopW2 x38 (Value.int .i64 0) (fun J4 x52 x53 w =>
 binIntW .lss x53 x6 (fun x54 w =>
 condP x54 (fun w => idxW 4 x41 x53 (fun x55 w =>
 addW 0 x55 (fun x56 w =>
 load1W x56 (fun x57 w =>
 binIntW .eql x57 (Value.int .i64 2) (fun x58 w =>
 joinW1 (fun x59 w =>
 binIntW .add x53 (Value.int .i64 1) (fun x60 w =>
 J4 x59 x60 w) w) (fun j1 w =>
 condP x58 (fun w => binIntW .add x52 (Value.int .i64 1) (fun x61 w =>
 j1 x61 w) w) (fun w => idxW 4 x41 x53 (fun x62 w =>
 addW 0 x62 (fun x63 w =>
 load1W x63 (fun x64 w =>
 binIntW .neq x64 (Value.int .i64 4) (fun x65 w =>
 gW x65 false (fun K w => K x41 w) (fun x66 w =>
 gW x65 false (fun K w => K x53 w) (fun x67 w =>
 gW x65 false (fun K w => idxW 4 x66 x67 K w) (fun x68 w =>
 gW x65 false (fun K w => addW 1 x68 K w) (fun x69 w =>
 gW x65 false (fun K w => load1W x69 K w) (fun x70 w =>
 gW x65 false (fun K w => binIntW .neq x70 (Value.int .i64 7) K w) (fun x71 w =>
 pickW x65 (Value.bool true) x71 (fun x72 w =>
 condP x72 (fun w => K (Value.bool false) w) (fun w => j1 x52 w) w) w) w) w) w) w) w) w) w) w) w) w) w) w) w) w) w) w) (fun w => binIntW .add x39 (Value.int .i64 1) (fun x73 w =>
 J3 x52 x73 w) w) w) w) w) w) w) w) w) w) w) w) w) w) w) w) w) (fun w => lenW x37 (fun x74 w =>
 binIntW .eql x74 (Value.int .i64 40) (fun x75 w =>
 gW x75 true (fun K w => K x37 w) (fun x76 w =>
 gW x75 true (fun K w => idxW 1 x76 (Value.int .i64 8) K w) (fun x77 w =>
 gW x75 true (fun K w => load1W x77 K w) (fun x78 w =>
 gW x75 true (fun K w => K x38 w) (fun x79 w =>
 gW x75 true (fun K w => convW .u64 x79 K w) (fun x80 w =>
 gW x75 true (fun K w => binIntW .eql x78 x80 K w) (fun x81 w =>
 pickW x75 x81 (Value.bool false) (fun x82 w =>
 gW x82 true (fun K w => K x38 w) (fun x83 w =>
 gW x82 true (fun K w => K x4 w) (fun x84 w =>
 gW x82 true (fun K w => binIntW .leq x83 x84 K w) (fun x85 w =>
 pickW x82 x85 (Value.bool false) (fun x86 w =>
 gW x86 true (fun K w => K x38 w) (fun x87 w =>
 gW x86 true (fun K w => K x4 w) (fun x88 w =>
 gW x86 true (fun K w => K x6 w) (fun x89 w =>
 gW x86 true (fun K w => binIntW .mul (Value.int .i64 2) x89 K w) (fun x90 w =>
 gW x86 true (fun K w => minW x88 [x90] K w) (fun x91 w =>
 gW x86 true (fun K w => binIntW .eql x87 x91 K w) (fun x92 w =>
 gW x86 true (fun K w => K x92 w) (fun x93 w =>
 gW x93 false (fun K w => K x30 w) (fun x94 w =>
 gW x93 false (fun K w => CP Tryz.prog Fn.machine_Machine_Now [x94] K w) (fun x95 w =>
 gW x93 false (fun K w => binIntW .eql x95 (Value.int .u64 4611686018427387903) K w) (fun x96 w =>
 gW x86 true (fun K w => pickW x93 (Value.bool true) x96 K w) (fun x97 w =>
 pickW x86 x97 (Value.bool false) (fun x98 w =>
 K x98 w) w) w) w) w) w) w) w) w) w) w) w) w) w) w) w) w) w) w) w) w) w) w) w) w) w) w) w) w) w) w) w) w) w) w) w) w) w) w) w) w) w) w) w) w) w) w) w) w) w) w) w

theorem Q_top_TopClock (a0 a1 a2 : Value) (K : KV) : S_top_TopClock a0 a1 a2 K = P_top_TopClock a0 a1 a2 K := by
  unfold S_top_TopClock P_top_TopClock
  generalize @CP = y_CP
  generalize @addW = y_addW
  generalize @appendW = y_appendW
  generalize @binIntW = y_binIntW
  generalize @buildSliceW = y_buildSliceW
  generalize @buildW = y_buildW
  generalize @condP = y_condP
  generalize @convW = y_convW
  generalize @eqNilW = y_eqNilW
  generalize @gW = y_gW
  generalize @idxW = y_idxW
  generalize @joinW1 = y_joinW1
  generalize @lenW = y_lenW
  generalize @load1W = y_load1W
  generalize @loopW2 = y_loopW2
  generalize @minW = y_minW
  generalize @notW = y_notW
  generalize @pickW = y_pickW
  rfl

/-- levels_Levels_Cells -/
def P_levels_Levels_Cells (a0 : Value) (K : KV) : World → Prop := fun w =>
 newW #[(Value.slice none 0 0)] (fun x1 w =>
 nilW a0 (fun x2 w =>
 addW 1 x2 (fun x3 w =>
 load1W x3 (fun x4 w =>
 CP Tryz.prog Fn.slices_Backward_levels_level_levels_level [x4] (fun x5 w =>
 backW Fn.slices_Backward_levels_level_levels_level_1 x5 (fun J R x6 x7 w =>
 CP Tryz.prog Fn.writes_New [(Value.int .i64 96)] (fun x8 w =>
 nilW x7 (fun x9 w =>
 addW 0 x9 (fun x10 w =>
 load1W x10 (fun x11 w =>
 CP Tryz.prog Fn.writes_Writes_All [x11] (fun x12 w =>
 CP Tryz.prog Fn.writes_Writes_Take [x8, x12] (fun x13 w =>
 load1W x1 (fun x14 w =>
 CP Tryz.prog Fn.writes_Writes_Take [x8, x14] (fun x15 w =>
 CP Tryz.prog Fn.writes_Writes_All [x8] (fun x16 w =>
 storeW 1 x1 x16 (fun _ w =>
 J w) w) w) w) w) w) w) w) w) w) w) (fun K w =>
 load1W x1 (fun x18 w =>
 K x18 w) w) (fun K w =>
 K (Value.slice none 0 0) w) K w) w) w) w) w) w

theorem Q_levels_Levels_Cells (a0 : Value) (K : KV) : S_levels_Levels_Cells a0 K = P_levels_Levels_Cells a0 K := by
  unfold S_levels_Levels_Cells P_levels_Levels_Cells
  generalize @CP = y_CP
  generalize @addW = y_addW
  generalize @backW = y_backW
  generalize @load1W = y_load1W
  generalize @newW = y_newW
  generalize @nilW = y_nilW
  generalize @storeW = y_storeW
  rfl

/-- check_jumps -/
def P_check_jumps (a0 a1 : Value) (K : KV) : World → Prop := fun w =>
 boxW a0 (fun x1 w =>
 addW 0 x1 (fun x2 w =>
 load1W x2 (fun x3 w =>
 lenW x3 (fun x4 w =>
 loopW1 (Value.int .i64 0) (fun J1 x5 w =>
 binIntW .lss x5 x4 (fun x6 w =>
 condP x6 (fun w => joinW0 (fun  w =>
 binIntW .add x5 (Value.int .i64 1) (fun x7 w =>
 J1 x7 w) w) (fun j1 w =>
 idxW 5 x3 x5 (fun x8 w =>
 loadNW 5 x8 (fun x9 w =>
 newW #[(Value.int .i64 0), (Value.int .i64 0), (Value.int .i64 0), (Value.int .i64 0), (Value.int .u64 0)] (fun x10 w =>
 storeW 5 x10 x9 (fun _ w =>
 addW 0 x10 (fun x12 w =>
 load1W x12 (fun x13 w =>
 CP Tryz.prog Fn.code_Jumps [x13] (fun x14 w =>
 notW x14 (fun x15 w =>
 condP x15 (fun w => j1  w) (fun w => drewW (fun w => addW 3 x10 (fun x16 w =>
 load1W x16 (fun x17 w =>
 addW 0 x1 (fun x18 w =>
 load1W x18 (fun x19 w =>
 lenW x19 (fun x20 w =>
 binIntW .gtr x17 x20 (fun x21 w =>
 gW x21 false (fun K w => addW 3 x10 K w) (fun x22 w =>
 gW x21 false (fun K w => load1W x22 K w) (fun x23 w =>
 gW x21 false (fun K w => addW 0 x1 K w) (fun x24 w =>
 gW x21 false (fun K w => load1W x24 K w) (fun x25 w =>
 gW x21 false (fun K w => lenW x25 K w) (fun x26 w =>
 gW x21 false (fun K w => binIntW .eql x23 x26 K w) (fun x27 w =>
 gW x21 false (fun K w => K x27 w) (fun x28 w =>
 gW x28 true (fun K w => K a1 w) (fun x29 w =>
 gW x28 true (fun K w => K x5 w) (fun x30 w =>
 gW x28 true (fun K w => idxW 1 x29 x30 K w) (fun x31 w =>
 gW x28 true (fun K w => load1W x31 K w) (fun x32 w =>
 gW x28 true (fun K w => binIntW .neq x32 (Value.int .i64 (-1)) K w) (fun x33 w =>
 gW x21 false (fun K w => pickW x28 x33 (Value.bool false) K w) (fun x34 w =>
 pickW x21 (Value.bool true) x34 (fun x35 w =>
 gW x35 false (fun K w => addW 3 x10 K w) (fun x36 w =>
 gW x35 false (fun K w => load1W x36 K w) (fun x37 w =>
 gW x35 false (fun K w => addW 0 x1 K w) (fun x38 w =>
 gW x35 false (fun K w => load1W x38 K w) (fun x39 w =>
 gW x35 false (fun K w => lenW x39 K w) (fun x40 w =>
 gW x35 false (fun K w => binIntW .lss x37 x40 K w) (fun x41 w =>
 gW x35 false (fun K w => K x41 w) (fun x42 w =>
 gW x42 true (fun K w => K a1 w) (fun x43 w =>
 gW x42 true (fun K w => addW 3 x10 K w) (fun x44 w =>
 gW x42 true (fun K w => load1W x44 K w) (fun x45 w =>
 gW x42 true (fun K w => idxW 1 x43 x45 K w) (fun x46 w =>
 gW x42 true (fun K w => load1W x46 K w) (fun x47 w =>
 gW x42 true (fun K w => K a1 w) (fun x48 w =>
 gW x42 true (fun K w => K x5 w) (fun x49 w =>
 gW x42 true (fun K w => idxW 1 x48 x49 K w) (fun x50 w =>
 gW x42 true (fun K w => load1W x50 K w) (fun x51 w =>
 gW x42 true (fun K w => binIntW .neq x47 x51 K w) (fun x52 w =>
 gW x35 false (fun K w => pickW x42 x52 (Value.bool false) K w) (fun x53 w =>
 pickW x35 (Value.bool true) x53 (fun x54 w =>
 condP x54 (fun w => K (Value.tuple #[x5, (Value.int .i64 2)]) w) (fun w => j1  w) w) w) w) w) w) w) w) w) w) w) w) w) w) w) w) w) w) w) w) w) w) w) w) w) w) w) w) w) w) w) w) w) w) w) w) w) w) w) w) w) w) w) w) w) w) w) w) w) w) w) w) (fun w => K (Value.tuple #[(Value.int .i64 0), (Value.int .i64 0)]) w) w) w) w) w) w) w) w

theorem Q_check_jumps (a0 a1 : Value) (K : KV) : S_check_jumps a0 a1 K = P_check_jumps a0 a1 K := by
  unfold S_check_jumps P_check_jumps
  generalize @CP = y_CP
  generalize @addW = y_addW
  generalize @binIntW = y_binIntW
  generalize @boxW = y_boxW
  generalize @condP = y_condP
  generalize @drewW = y_drewW
  generalize @gW = y_gW
  generalize @idxW = y_idxW
  generalize @joinW0 = y_joinW0
  generalize @lenW = y_lenW
  generalize @load1W = y_load1W
  generalize @loadNW = y_loadNW
  generalize @loopW1 = y_loopW1
  generalize @newW = y_newW
  generalize @notW = y_notW
  generalize @pickW = y_pickW
  generalize @storeW = y_storeW
  rfl

/-- levels_Levels_Get -/
def P_levels_Levels_Get (a0 a1 : Value) (K : KV) : World → Prop := fun w =>
 boxW a1 (fun x1 w =>
 newW #[(Value.int .u64 0)] (fun x2 w =>
 newW #[(Value.bool false)] (fun x3 w =>
 nilW a0 (fun x4 w =>
 addW 1 x4 (fun x5 w =>
 load1W x5 (fun x6 w =>
 CP Tryz.prog Fn.slices_Backward_levels_level_levels_level [x6] (fun x7 w =>
 backW Fn.slices_Backward_levels_level_levels_level_1 x7 (fun J R x8 x9 w =>
 drewW (fun w => nilW x9 (fun x10 w =>
 addW 0 x10 (fun x11 w =>
 load1W x11 (fun x12 w =>
 load1W x1 (fun x13 w =>
 CP Tryz.prog Fn.writes_Writes_Get [x12, x13] (fun x14 w =>
 andP (fun w => andP (fun w => trueP w) (fun w => andP (fun w => trueP w) (fun w => trueP w) w) w) (fun w =>
 extractW 0 x14 (fun x15 w =>
 extractW 1 x14 (fun x16 w =>
 condP x16 (fun w => storeW 1 x2 x15 (fun _ w =>
 storeW 1 x3 (Value.bool true) (fun _ w =>
 R w) w) w) (fun w => J w) w) w) w) w) w) w) w) w) w) w) (fun K w =>
 storeW 1 x2 (Value.int .u64 0) (fun _ w =>
 storeW 1 x3 (Value.bool false) (fun _ w =>
 load1W x2 (fun x21 w =>
 load1W x3 (fun x22 w =>
 K (Value.tuple #[x21, x22]) w) w) w) w) w) (fun K w =>
 load1W x2 (fun x23 w =>
 load1W x3 (fun x24 w =>
 K (Value.tuple #[x23, x24]) w) w) w) K w) w) w) w) w) w) w) w

theorem Q_levels_Levels_Get (a0 a1 : Value) (K : KV) : S_levels_Levels_Get a0 a1 K = P_levels_Levels_Get a0 a1 K := by
  unfold S_levels_Levels_Get P_levels_Levels_Get
  generalize @CP = y_CP
  generalize @addW = y_addW
  generalize @andP = y_andP
  generalize @backW = y_backW
  generalize @boxW = y_boxW
  generalize @condP = y_condP
  generalize @drewW = y_drewW
  generalize @extractW = y_extractW
  generalize @load1W = y_load1W
  generalize @newW = y_newW
  generalize @nilW = y_nilW
  generalize @storeW = y_storeW
  rfl

end Go.Proofs.YtoealglbimbbmaaGreatDoor.S
