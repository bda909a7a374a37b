import Derived.Test.YtoealglbimbbmaaGreatDoorSForm
namespace Go.Proofs.YtoealglbimbbmaaGreatDoor.S
open Go Go.Proofs
set_option linter.unusedVariables false
set_option maxRecDepth 100000
def P_top_TopWakes (a0 a1 a2 a3 : Value) (K : KV) : World → Prop := fun w =>
 boxW a0 (fun x1 w =>
 CP Tryz.prog Fn.top_awake [] (fun x2 w =>
 notW x2 (fun x3 w =>
 condP x3 (fun w => K (Value.bool false) w) (fun w => makeSliceW 24 [(Value.slice none 0 0)] (Value.int .i64 3) (Value.int .i64 3) (fun x4 w =>
 loopW1 (Value.int .i64 0) (fun J1 x5 w =>
 lenW a1 (fun x6 w =>
 binIntW .lss x5 x6 (fun x7 w =>
 gW x7 true (fun K w => K x5 w) (fun x8 w =>
 gW x7 true (fun K w => binIntW .lss x8 (Value.int .i64 18) K w) (fun x9 w =>
 pickW x7 x9 (Value.bool false) (fun x10 w =>
 condP x10 (fun w => joinW0 (fun  w =>
 binIntW .add x5 (Value.int .i64 1) (fun x11 w =>
 J1 x11 w) w) (fun j1 w =>
 drewW (fun w => idxW 1 a1 x5 (fun x12 w =>
 load1W x12 (fun x13 w =>
 binIntW .shr x13 (Value.int .u64 2) (fun x14 w =>
 binIntW .and x14 (Value.int .u8 1) (fun x15 w =>
 convW .i64 x15 (fun x16 w =>
 binIntW .add (Value.int .i64 8) x16 (fun x17 w =>
 idxW 1 a1 x5 (fun x18 w =>
 load1W x18 (fun x19 w =>
 binIntW .shr x19 (Value.int .u64 3) (fun x20 w =>
 binIntW .and x20 (Value.int .u8 1) (fun x21 w =>
 convW .i64 x21 (fun x22 w =>
 binIntW .add (Value.int .i64 10) x22 (fun x23 w =>
 andP (fun w => CP Tryz.prog Fn.top_takes [x17, x23] (fun x24 w =>
 andP (fun w => andP (fun w => trueP w) (fun w => andP (fun w => trueP w) (fun w => trueP w) w) w) (fun w =>
 newW #[(Value.slice none 0 0)] (fun x25 w =>
 andP (fun w => trueP w) (fun w =>
 storeW 1 x25 x24 (fun _ w =>
 andP (fun w => trueP w) (fun w =>
 idxW 1 a1 x5 (fun x27 w =>
 load1W x27 (fun x28 w =>
 binIntW .and x28 (Value.int .u8 3) (fun x29 w =>
 binIntW .gtr x29 (Value.int .u8 1) (fun x30 w =>
 joinW0 (fun  w =>
 drewW (fun w => binIntW .rem x5 (Value.int .i64 3) (fun x31 w =>
 binIntW .rem x5 (Value.int .i64 3) (fun x32 w =>
 idxW 1 x4 x32 (fun x33 w =>
 load1W x33 (fun x34 w =>
 loadNW 1 x25 (fun x35 w =>
 buildSliceW [(Value.slice none 0 0)] 1 [(0, 1, x35)] (fun x36 w =>
 andP (fun w => andP (fun w => trueP w) (fun w => andP (fun w => load1W x33 (fun v w => eqP v x34 w) w) (fun w => trueP w) w) w) (fun w =>
 appendW 1 24 x34 x36 (fun x37 w =>
 andP (fun w => andP (fun w => trueP w) (fun w => trueP w) w) (fun w =>
 idxW 1 x4 x31 (fun x38 w =>
 storeW 1 x38 x37 (fun _ w =>
 andP (fun w => trueP w) (fun w =>
 j1  w) w) w) w) w) w) w) w) w) w) w) w) w) w) (fun j2 w =>
 condP x30 (fun w => idxW 1 a1 x5 (fun x40 w =>
 load1W x40 (fun x41 w =>
 binIntW .shr x41 (Value.int .u64 2) (fun x42 w =>
 binIntW .and x42 (Value.int .u8 3) (fun x43 w =>
 convW .i64 x43 (fun x44 w =>
 binIntW .add (Value.int .i64 8) x44 (fun x45 w =>
 CP Tryz.prog Fn.top_puts [x45] (fun x46 w =>
 storeW 1 x25 x46 (fun _ w =>
 j2  w) w) w) w) w) w) w) w) w) (fun w => j2  w) w) w) w) w) w) w) w) w) w) w) w) w) (fun w => newW #[(Value.slice none 0 0)] (fun x48 w =>
 andP (fun w => andP (fun w => load1W x18 (fun v w => eqP v x19 w) w) (fun w => andP (fun w => load1W x12 (fun v w => eqP v x13 w) w) (fun w => trueP w) w) w) (fun w =>
 CP Tryz.prog Fn.top_takes [x17, x23] (fun x49 w =>
 andP (fun w => andP (fun w => trueP w) (fun w => andP (fun w => trueP w) (fun w => trueP w) w) w) (fun w =>
 storeW 1 x48 x49 (fun _ w =>
 andP (fun w => trueP w) (fun w =>
 idxW 1 a1 x5 (fun x51 w =>
 load1W x51 (fun x52 w =>
 binIntW .and x52 (Value.int .u8 3) (fun x53 w =>
 binIntW .gtr x53 (Value.int .u8 1) (fun x54 w =>
 joinW0 (fun  w =>
 drewW (fun w => binIntW .rem x5 (Value.int .i64 3) (fun x55 w =>
 binIntW .rem x5 (Value.int .i64 3) (fun x56 w =>
 idxW 1 x4 x56 (fun x57 w =>
 load1W x57 (fun x58 w =>
 loadNW 1 x48 (fun x59 w =>
 buildSliceW [(Value.slice none 0 0)] 1 [(0, 1, x59)] (fun x60 w =>
 andP (fun w => andP (fun w => trueP w) (fun w => andP (fun w => load1W x57 (fun v w => eqP v x58 w) w) (fun w => trueP w) w) w) (fun w =>
 appendW 1 24 x58 x60 (fun x61 w =>
 andP (fun w => andP (fun w => trueP w) (fun w => trueP w) w) (fun w =>
 idxW 1 x4 x55 (fun x62 w =>
 storeW 1 x62 x61 (fun _ w =>
 andP (fun w => trueP w) (fun w =>
 j1  w) w) w) w) w) w) w) w) w) w) w) w) w) w) (fun j3 w =>
 condP x54 (fun w => idxW 1 a1 x5 (fun x64 w =>
 load1W x64 (fun x65 w =>
 binIntW .shr x65 (Value.int .u64 2) (fun x66 w =>
 binIntW .and x66 (Value.int .u8 3) (fun x67 w =>
 convW .i64 x67 (fun x68 w =>
 binIntW .add (Value.int .i64 8) x68 (fun x69 w =>
 CP Tryz.prog Fn.top_puts [x69] (fun x70 w =>
 storeW 1 x48 x70 (fun _ w =>
 j3  w) w) w) w) w) w) w) w) w) (fun w => j3  w) w) w) w) w) w) w) w) w) w) w) w) w) w) w) w) w) w) w) w) w) w) w) w) w) w) w) w) (fun w => loadNW 7 x1 (fun x72 w =>
 CP Tryz.prog Fn.keep_Setup_Setup [x72] (fun x73 w =>
 CP Tryz.prog Fn.machine_New [x73, x4] (fun x74 w =>
 eqNilW .eql x74 (Value.pointer none) (fun x75 w =>
 condP x75 (fun w => K (Value.bool false) w) (fun w => loopW1 (Value.int .i64 0) (fun J2 x76 w =>
 lenW a2 (fun x77 w =>
 binIntW .lss x76 x77 (fun x78 w =>
 gW x78 true (fun K w => K x76 w) (fun x79 w =>
 gW x78 true (fun K w => binIntW .lss x79 (Value.int .i64 60) K w) (fun x80 w =>
 pickW x78 x80 (Value.bool false) (fun x81 w =>
 condP x81 (fun w => loopW1 (Value.int .i64 0) (fun J3 x82 w =>
 idxW 3 a2 x76 (fun x83 w =>
 loadNW 3 x83 (fun x84 w =>
 CP Tryz.prog Fn.top_pick [x74, x84, (Value.int .i64 20)] (fun x85 w =>
 binIntW .leq x82 x85 (fun x86 w =>
 condP x86 (fun w => drewW (fun w => idxW 3 a2 x76 (fun x87 w =>
 loadNW 3 x87 (fun x88 w =>
 idxW 3 a2 x76 (fun x89 w =>
 addW 1 x89 (fun x90 w =>
 load1W x90 (fun x91 w =>
 CP Tryz.prog Fn.top_who [x74, x88] (fun x92 w =>
 andP (fun w => andP (fun w => load1W x90 (fun v w => eqP v x91 w) w) (fun w => andP (fun w => trueP w) (fun w => trueP w) w) w) (fun w =>
 CP Tryz.prog Fn.machine_Machine_Pick [x74, x92, x91] (fun x93 w =>
 andP (fun w => andP (fun w => trueP w) (fun w => trueP w) w) (fun w =>
 binIntW .add x82 (Value.int .i64 1) (fun x94 w =>
 J3 x94 w) w) w) w) w) w) w) w) w) w) w) w) (fun w => binIntW .add x76 (Value.int .i64 1) (fun x95 w =>
 J2 x95 w) w) w) w) w) w) w) w) (fun w => CP Tryz.prog Fn.top_settled [x74, a3] (fun x96 w =>
 notW x96 (fun x97 w =>
 condP x97 (fun w => K (Value.bool false) w) (fun w => CP Tryz.prog Fn.machine_Machine_Words [x74] (fun x98 w =>
 loopW1 (Value.int .i64 0) (fun J4 x99 w =>
 binIntW .lss x99 (Value.int .i64 3) (fun x100 w =>
 condP x100 (fun w => joinW0 (fun  w =>
 binIntW .add x99 (Value.int .i64 1) (fun x101 w =>
 J4 x101 w) w) (fun j4 w =>
 CP Tryz.prog Fn.machine_Machine_Results [x74, x99] (fun x102 w =>
 lenW x102 (fun x103 w =>
 CP Tryz.prog Fn.machine_Machine_State [x74, x99] (fun x104 w =>
 binIntW .neq x104 (Value.int .i64 4) (fun x105 w =>
 condP x105 (fun w => idxW 1 x4 x99 (fun x106 w =>
 load1W x106 (fun x107 w =>
 lenW x107 (fun x108 w =>
 binIntW .neq x103 x108 (fun x109 w =>
 condP x109 (fun w => K (Value.bool false) w) (fun w => j4  w) w) w) w) w) w) (fun w => idxW 1 x4 x99 (fun x110 w =>
 load1W x110 (fun x111 w =>
 lenW x111 (fun x112 w =>
 binIntW .geq x103 x112 (fun x113 w =>
 gW x113 false (fun K w => K x4 w) (fun x114 w =>
 gW x113 false (fun K w => K x99 w) (fun x115 w =>
 gW x113 false (fun K w => idxW 1 x114 x115 K w) (fun x116 w =>
 gW x113 false (fun K w => load1W x116 K w) (fun x117 w =>
 gW x113 false (fun K w => K x103 w) (fun x118 w =>
 gW x113 false (fun K w => idxW 1 x117 x118 K w) (fun x119 w =>
 gW x113 false (fun K w => addW 0 x119 K w) (fun x120 w =>
 gW x113 false (fun K w => load1W x120 K w) (fun x121 w =>
 gW x113 false (fun K w => lenW x121 K w) (fun x122 w =>
 gW x113 false (fun K w => binIntW .lss x122 (Value.int .i64 9) K w) (fun x123 w =>
 pickW x113 (Value.bool true) x123 (fun x124 w =>
 gW x124 false (fun K w => K x98 w) (fun x125 w =>
 gW x124 false (fun K w => lenW x125 K w) (fun x126 w =>
 gW x124 false (fun K w => binIntW .lss x126 (Value.int .i64 16) K w) (fun x127 w =>
 pickW x124 (Value.bool true) x127 (fun x128 w =>
 gW x128 false (fun K w => K x98 w) (fun x129 w =>
 gW x128 false (fun K w => K x4 w) (fun x130 w =>
 gW x128 false (fun K w => K x99 w) (fun x131 w =>
 gW x128 false (fun K w => idxW 1 x130 x131 K w) (fun x132 w =>
 gW x128 false (fun K w => load1W x132 K w) (fun x133 w =>
 gW x128 false (fun K w => K x103 w) (fun x134 w =>
 gW x128 false (fun K w => idxW 1 x133 x134 K w) (fun x135 w =>
 gW x128 false (fun K w => addW 0 x135 K w) (fun x136 w =>
 gW x128 false (fun K w => load1W x136 K w) (fun x137 w =>
 gW x128 false (fun K w => idxW 5 x137 (Value.int .i64 1) K w) (fun x138 w =>
 gW x128 false (fun K w => addW 3 x138 K w) (fun x139 w =>
 gW x128 false (fun K w => load1W x139 K w) (fun x140 w =>
 gW x128 false (fun K w => idxW 1 x129 x140 K w) (fun x141 w =>
 gW x128 false (fun K w => load1W x141 K w) (fun x142 w =>
 gW x128 false (fun K w => binIntW .neq x142 (Value.int .u64 0) K w) (fun x143 w =>
 pickW x128 (Value.bool true) x143 (fun x144 w =>
 gW x144 false (fun K w => K x98 w) (fun x145 w =>
 gW x144 false (fun K w => K x4 w) (fun x146 w =>
 gW x144 false (fun K w => K x99 w) (fun x147 w =>
 gW x144 false (fun K w => idxW 1 x146 x147 K w) (fun x148 w =>
 gW x144 false (fun K w => load1W x148 K w) (fun x149 w =>
 gW x144 false (fun K w => K x103 w) (fun x150 w =>
 gW x144 false (fun K w => idxW 1 x149 x150 K w) (fun x151 w =>
 gW x144 false (fun K w => addW 0 x151 K w) (fun x152 w =>
 gW x144 false (fun K w => load1W x152 K w) (fun x153 w =>
 gW x144 false (fun K w => idxW 5 x153 (Value.int .i64 8) K w) (fun x154 w =>
 gW x144 false (fun K w => addW 3 x154 K w) (fun x155 w =>
 gW x144 false (fun K w => load1W x155 K w) (fun x156 w =>
 gW x144 false (fun K w => idxW 1 x145 x156 K w) (fun x157 w =>
 gW x144 false (fun K w => load1W x157 K w) (fun x158 w =>
 gW x144 false (fun K w => binIntW .neq x158 (Value.int .u64 0) K w) (fun x159 w =>
 pickW x144 (Value.bool true) x159 (fun x160 w =>
 condP x160 (fun w => K (Value.bool false) w) (fun w => j4  w) w) w) w) w) w) w) w) w) w) w) w) w) w) w) w) w) w) w) w) w) w) w) w) w) w) w) w) w) w) w) w) w) w) w) w) w) w) w) w) w) w) w) w) w) w) w) w) w) w) w) w) w) w) w) w) w) w) w) (fun w => K (Value.bool true) w) w) w) w) w) w) w) w) w) w) w) w) w) w) w) w) w) w) w) w) w) w) w) w) w) w) w) w) w) w) w) w
theorem Q_top_TopWakes (a0 a1 a2 a3 : Value) (K : KV) : S_top_TopWakes a0 a1 a2 a3 K = P_top_TopWakes a0 a1 a2 a3 K := by
 unfold S_top_TopWakes P_top_TopWakes
 generalize @CP = y_CP
 generalize @addW = y_addW
 generalize @andP = y_andP
 generalize @appendW = y_appendW
 generalize @binIntW = y_binIntW
 generalize @boxW = y_boxW
 generalize @buildSliceW = y_buildSliceW
 generalize @condP = y_condP
 generalize @convW = y_convW
 generalize @drewW = y_drewW
 generalize @eqNilW = y_eqNilW
 generalize @eqP = y_eqP
 generalize @gW = y_gW
 generalize @idxW = y_idxW
 generalize @joinW0 = y_joinW0
 generalize @lenW = y_lenW
 generalize @load1W = y_load1W
 generalize @loadNW = y_loadNW
 generalize @loopW1 = y_loopW1
 generalize @makeSliceW = y_makeSliceW
 generalize @newW = y_newW
 generalize @notW = y_notW
 generalize @pickW = y_pickW
 generalize @storeW = y_storeW
 rfl
def P_levels_Levels_Cells (a0 : Value) (K : KV) : World → Prop := fun w =>
 newW #[(Value.slice none 0 0)] (fun x1 w =>
 nilW a0 (fun x2 w =>
 addW 1 x2 (fun x3 w =>
 load1W x3 (fun x4 w =>
 CP Tryz.prog Fn.slices_Backward_levels_level_levels_level [x4] (fun x5 w =>
 backW Fn.slices_Backward_levels_level_levels_level_1 x5 (fun J R x6 x7 w =>
 CP Tryz.prog Fn.writes_New [(Value.int .i64 96)] (fun x8 w =>
 nilW x7 (fun x9 w =>
 addW 0 x9 (fun x10 w =>
 load1W x10 (fun x11 w =>
 CP Tryz.prog Fn.writes_Writes_All [x11] (fun x12 w =>
 CP Tryz.prog Fn.writes_Writes_Take [x8, x12] (fun x13 w =>
 load1W x1 (fun x14 w =>
 CP Tryz.prog Fn.writes_Writes_Take [x8, x14] (fun x15 w =>
 CP Tryz.prog Fn.writes_Writes_All [x8] (fun x16 w =>
 storeW 1 x1 x16 (fun _ w =>
 J w) w) w) w) w) w) w) w) w) w) w) (fun K w =>
 load1W x1 (fun x18 w =>
 K x18 w) w) (fun K w =>
 K (Value.slice none 0 0) w) K w) w) w) w) w) w
theorem Q_levels_Levels_Cells (a0 : Value) (K : KV) : S_levels_Levels_Cells a0 K = P_levels_Levels_Cells a0 K := by
 unfold S_levels_Levels_Cells P_levels_Levels_Cells
 generalize @CP = y_CP
 generalize @addW = y_addW
 generalize @backW = y_backW
 generalize @load1W = y_load1W
 generalize @newW = y_newW
 generalize @nilW = y_nilW
 generalize @storeW = y_storeW
 rfl
def P_check_jumps (a0 a1 : Value) (K : KV) : World → Prop := fun w =>
 boxW a0 (fun x1 w =>
 addW 0 x1 (fun x2 w =>
 load1W x2 (fun x3 w =>
 lenW x3 (fun x4 w =>
 loopW1 (Value.int .i64 0) (fun J1 x5 w =>
 binIntW .lss x5 x4 (fun x6 w =>
 condP x6 (fun w => joinW0 (fun  w =>
 binIntW .add x5 (Value.int .i64 1) (fun x7 w =>
 J1 x7 w) w) (fun j1 w =>
 idxW 5 x3 x5 (fun x8 w =>
 loadNW 5 x8 (fun x9 w =>
 newW #[(Value.int .i64 0), (Value.int .i64 0), (Value.int .i64 0), (Value.int .i64 0), (Value.int .u64 0)] (fun x10 w =>
 storeW 5 x10 x9 (fun _ w =>
 addW 0 x10 (fun x12 w =>
 load1W x12 (fun x13 w =>
 CP Tryz.prog Fn.code_Jumps [x13] (fun x14 w =>
 notW x14 (fun x15 w =>
 condP x15 (fun w => j1  w) (fun w => drewW (fun w => addW 3 x10 (fun x16 w =>
 load1W x16 (fun x17 w =>
 addW 0 x1 (fun x18 w =>
 load1W x18 (fun x19 w =>
 lenW x19 (fun x20 w =>
 binIntW .gtr x17 x20 (fun x21 w =>
 gW x21 false (fun K w => addW 3 x10 K w) (fun x22 w =>
 gW x21 false (fun K w => load1W x22 K w) (fun x23 w =>
 gW x21 false (fun K w => addW 0 x1 K w) (fun x24 w =>
 gW x21 false (fun K w => load1W x24 K w) (fun x25 w =>
 gW x21 false (fun K w => lenW x25 K w) (fun x26 w =>
 gW x21 false (fun K w => binIntW .eql x23 x26 K w) (fun x27 w =>
 gW x21 false (fun K w => K x27 w) (fun x28 w =>
 gW x28 true (fun K w => K a1 w) (fun x29 w =>
 gW x28 true (fun K w => K x5 w) (fun x30 w =>
 gW x28 true (fun K w => idxW 1 x29 x30 K w) (fun x31 w =>
 gW x28 true (fun K w => load1W x31 K w) (fun x32 w =>
 gW x28 true (fun K w => binIntW .neq x32 (Value.int .i64 (-1)) K w) (fun x33 w =>
 gW x21 false (fun K w => pickW x28 x33 (Value.bool false) K w) (fun x34 w =>
 pickW x21 (Value.bool true) x34 (fun x35 w =>
 gW x35 false (fun K w => addW 3 x10 K w) (fun x36 w =>
 gW x35 false (fun K w => load1W x36 K w) (fun x37 w =>
 gW x35 false (fun K w => addW 0 x1 K w) (fun x38 w =>
 gW x35 false (fun K w => load1W x38 K w) (fun x39 w =>
 gW x35 false (fun K w => lenW x39 K w) (fun x40 w =>
 gW x35 false (fun K w => binIntW .lss x37 x40 K w) (fun x41 w =>
 gW x35 false (fun K w => K x41 w) (fun x42 w =>
 gW x42 true (fun K w => K a1 w) (fun x43 w =>
 gW x42 true (fun K w => addW 3 x10 K w) (fun x44 w =>
 gW x42 true (fun K w => load1W x44 K w) (fun x45 w =>
 gW x42 true (fun K w => idxW 1 x43 x45 K w) (fun x46 w =>
 gW x42 true (fun K w => load1W x46 K w) (fun x47 w =>
 gW x42 true (fun K w => K a1 w) (fun x48 w =>
 gW x42 true (fun K w => K x5 w) (fun x49 w =>
 gW x42 true (fun K w => idxW 1 x48 x49 K w) (fun x50 w =>
 gW x42 true (fun K w => load1W x50 K w) (fun x51 w =>
 gW x42 true (fun K w => binIntW .neq x47 x51 K w) (fun x52 w =>
 gW x35 false (fun K w => pickW x42 x52 (Value.bool false) K w) (fun x53 w =>
 pickW x35 (Value.bool true) x53 (fun x54 w =>
 condP x54 (fun w => K (Value.tuple #[x5, (Value.int .i64 2)]) w) (fun w => j1  w) w) w) w) w) w) w) w) w) w) w) w) w) w) w) w) w) w) w) w) w) w) w) w) w) w) w) w) w) w) w) w) w) w) w) w) w) w) w) w) w) w) w) w) w) w) w) w) w) w) w) w) (fun w => K (Value.tuple #[(Value.int .i64 0), (Value.int .i64 0)]) w) w) w) w) w) w) w) w
theorem Q_check_jumps (a0 a1 : Value) (K : KV) : S_check_jumps a0 a1 K = P_check_jumps a0 a1 K := by
 unfold S_check_jumps P_check_jumps
 generalize @CP = y_CP
 generalize @addW = y_addW
 generalize @binIntW = y_binIntW
 generalize @boxW = y_boxW
 generalize @condP = y_condP
 generalize @drewW = y_drewW
 generalize @gW = y_gW
 generalize @idxW = y_idxW
 generalize @joinW0 = y_joinW0
 generalize @lenW = y_lenW
 generalize @load1W = y_load1W
 generalize @loadNW = y_loadNW
 generalize @loopW1 = y_loopW1
 generalize @newW = y_newW
 generalize @notW = y_notW
 generalize @pickW = y_pickW
 generalize @storeW = y_storeW
 rfl
def P_levels_Levels_Get (a0 a1 : Value) (K : KV) : World → Prop := fun w =>
 boxW a1 (fun x1 w =>
 newW #[(Value.int .u64 0)] (fun x2 w =>
 newW #[(Value.bool false)] (fun x3 w =>
 nilW a0 (fun x4 w =>
 addW 1 x4 (fun x5 w =>
 load1W x5 (fun x6 w =>
 CP Tryz.prog Fn.slices_Backward_levels_level_levels_level [x6] (fun x7 w =>
 backW Fn.slices_Backward_levels_level_levels_level_1 x7 (fun J R x8 x9 w =>
 drewW (fun w => nilW x9 (fun x10 w =>
 addW 0 x10 (fun x11 w =>
 load1W x11 (fun x12 w =>
 load1W x1 (fun x13 w =>
 CP Tryz.prog Fn.writes_Writes_Get [x12, x13] (fun x14 w =>
 andP (fun w => andP (fun w => trueP w) (fun w => andP (fun w => trueP w) (fun w => trueP w) w) w) (fun w =>
 extractW 0 x14 (fun x15 w =>
 extractW 1 x14 (fun x16 w =>
 condP x16 (fun w => storeW 1 x2 x15 (fun _ w =>
 storeW 1 x3 (Value.bool true) (fun _ w =>
 R w) w) w) (fun w => J w) w) w) w) w) w) w) w) w) w) w) (fun K w =>
 storeW 1 x2 (Value.int .u64 0) (fun _ w =>
 storeW 1 x3 (Value.bool false) (fun _ w =>
 load1W x2 (fun x21 w =>
 load1W x3 (fun x22 w =>
 K (Value.tuple #[x21, x22]) w) w) w) w) w) (fun K w =>
 load1W x2 (fun x23 w =>
 load1W x3 (fun x24 w =>
 K (Value.tuple #[x23, x24]) w) w) w) K w) w) w) w) w) w) w) w
theorem Q_levels_Levels_Get (a0 a1 : Value) (K : KV) : S_levels_Levels_Get a0 a1 K = P_levels_Levels_Get a0 a1 K := by
 unfold S_levels_Levels_Get P_levels_Levels_Get
 generalize @CP = y_CP
 generalize @addW = y_addW
 generalize @andP = y_andP
 generalize @backW = y_backW
 generalize @boxW = y_boxW
 generalize @condP = y_condP
 generalize @drewW = y_drewW
 generalize @extractW = y_extractW
 generalize @load1W = y_load1W
 generalize @newW = y_newW
 generalize @nilW = y_nilW
 generalize @storeW = y_storeW
 rfl
end Go.Proofs.YtoealglbimbbmaaGreatDoor.S
namespace Go.Proofs.YtoealglbimbbmaaGreatDoor.S
open Go Go.Proofs
set_option linter.unusedVariables false
set_option maxRecDepth 100000
end Go.Proofs.YtoealglbimbbmaaGreatDoor.S
