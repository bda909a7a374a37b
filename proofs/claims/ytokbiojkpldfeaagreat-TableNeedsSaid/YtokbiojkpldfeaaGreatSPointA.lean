/-
  THE PLAIN FORMS, WITH THE WORLD NAMED AT EACH STEP, by a program.
-/
import Derived.Test.YtokbiojkpldfeaaGreatSForm
namespace Go.Proofs.YtokbiojkpldfeaaGreat.S
open Go Go.Proofs
set_option linter.unusedVariables false
set_option maxRecDepth 100000
/-- law18_TableNeeds -/
def P_law18_TableNeeds (a0 a1 : Value) (K : KV) : World → Prop := fun w =>
 boxW a1 (fun x1 w =>
 CP Tryz.prog Fn.law18_TableRuns [] (fun x2 w =>
 notW x2 (fun x3 w =>
 condP x3 (fun w => K (Value.bool false) w) (fun w => CP Tryz.prog Fn.arena_Fresh [(Value.int .i64 256)] (fun x4 w =>
 buildW [(Value.slice none 0 0), (Value.slice none 0 0), (Value.slice none 0 0), (Value.slice none 0 0), (Value.slice none 0 0), (Value.slice none 0 0), (Value.slice none 0 0), (Value.slice none 0 0)] [] (fun x5 w =>
 boxW x5 (fun x6 w =>
 loopW2 x4 (Value.int .i64 0) (fun J1 x7 x8 w =>
 lenW a0 (fun x9 w =>
 binIntW .lss x8 x9 (fun x10 w =>
 gW x10 true (fun K w => K x8 w) (fun x11 w =>
 gW x10 true (fun K w => binIntW .lss x11 (Value.int .i64 20) K w) (fun x12 w =>
 pickW x10 x12 (Value.bool false) (fun x13 w =>
 condP x13 (fun w => idxW 4 a0 x8 (fun x14 w =>
 loadNW 4 x14 (fun x15 w =>
 CP Tryz.prog Fn.law18_mine [x15] (fun x16 w =>
 CP Tryz.prog Fn.law18_step [x7, x6, x16] (fun x17 w =>
 extractW 0 x17 (fun x18 w =>
 extractW 1 x17 (fun x19 w =>
 notW x19 (fun x20 w =>
 condP x20 (fun w => K (Value.bool false) w) (fun w => binIntW .add x8 (Value.int .i64 1) (fun x21 w =>
 J1 x18 x21 w) w) w) w) w) w) w) w) w) w) (fun w => loadNW 4 x1 (fun x22 w =>
 CP Tryz.prog Fn.law18_mine [x22] (fun x23 w =>
 storeW 4 x1 x23 (fun _ w =>
 loadNW 4 x1 (fun x25 w =>
 CP Tryz.prog Fn.keep_Call_Place [x25] (fun x26 w =>
 binIntW .add (Value.int .i64 6) x26 (fun x27 w =>
 lenW x7 (fun x28 w =>
 CP Tryz.prog Fn.view_New [x28, (Value.int .i64 96)] (fun x29 w =>
 CP Tryz.prog Fn.view_Whole [x7, (Value.int .i64 96)] (fun x30 w =>
 eqNilW .eql x29 (Value.pointer none) (fun x31 w =>
 gW x31 false (fun K w => K x30 w) (fun x32 w =>
 gW x31 false (fun K w => eqNilW .eql x32 (Value.pointer none) K w) (fun x33 w =>
 pickW x31 (Value.bool true) x33 (fun x34 w =>
 condP x34 (fun w => K (Value.bool false) w) (fun w => loadNW 4 x1 (fun x35 w =>
 CP Tryz.prog Fn.law18_call [x30, x27, x35] (fun x36 w =>
 extractW 0 x36 (fun x37 w =>
 extractW 1 x36 (fun x38 w =>
 newW #[(Value.int .i64 0), (Value.int .u64 0)] (fun x39 w =>
 storeW 2 x39 x37 (fun _ w =>
 loopW1 (Value.int .i64 0) (fun J2 x41 w =>
 binIntW .lss x41 (Value.int .i64 256) (fun x42 w =>
 condP x42 (fun w => loadNW 4 x1 (fun x43 w =>
 CP Tryz.prog Fn.law18_call [x29, x27, x43] (fun x44 w =>
 extractW 0 x44 (fun x45 w =>
 extractW 1 x44 (fun x46 w =>
 newW #[(Value.int .i64 0), (Value.int .u64 0)] (fun x47 w =>
 storeW 2 x47 x45 (fun _ w =>
 binIntW .neq x46 (Value.int .i64 11) (fun x49 w =>
 condP x49 (fun w => loadNW 2 x47 (fun x50 w =>
 loadNW 2 x39 (fun x51 w =>
 eqAggW [.i .i64, .i .u64] .eql x50 x51 (fun x52 w =>
 gW x52 true (fun K w => K x46 w) (fun x53 w =>
 gW x52 true (fun K w => K x38 w) (fun x54 w =>
 gW x52 true (fun K w => binIntW .eql x53 x54 K w) (fun x55 w =>
 pickW x52 x55 (Value.bool false) (fun x56 w =>
 gW x56 true (fun K w => K x29 w) (fun x57 w =>
 gW x56 true (fun K w => CP Tryz.prog Fn.view_View_Cells [x57] K w) (fun x58 w =>
 gW x56 true (fun K w => K x30 w) (fun x59 w =>
 gW x56 true (fun K w => CP Tryz.prog Fn.view_View_Cells [x59] K w) (fun x60 w =>
 gW x56 true (fun K w => CP Tryz.prog Fn.book_Same_api_Cell [x58, x60] K w) (fun x61 w =>
 pickW x56 x61 (Value.bool false) (fun x62 w =>
 gW x62 true (fun K w => K x29 w) (fun x63 w =>
 gW x62 true (fun K w => CP Tryz.prog Fn.view_View_Frees [x63] K w) (fun x64 w =>
 gW x62 true (fun K w => K x30 w) (fun x65 w =>
 gW x62 true (fun K w => CP Tryz.prog Fn.view_View_Frees [x65] K w) (fun x66 w =>
 gW x62 true (fun K w => CP Tryz.prog Fn.book_Same_int [x64, x66] K w) (fun x67 w =>
 pickW x62 x67 (Value.bool false) (fun x68 w =>
 gW x68 true (fun K w => K x29 w) (fun x69 w =>
 gW x68 true (fun K w => CP Tryz.prog Fn.view_View_Depth [x69] K w) (fun x70 w =>
 gW x68 true (fun K w => binIntW .eql x70 (Value.int .i64 1) K w) (fun x71 w =>
 pickW x68 x71 (Value.bool false) (fun x72 w =>
 K x72 w) w) w) w) w) w) w) w) w) w) w) w) w) w) w) w) w) w) w) w) w) w) w) w) (fun w => CP Tryz.prog Fn.view_View_Need [x29] (fun x73 w =>
 binIntW .lss x73 (Value.int .i64 1) (fun x74 w =>
 gW x74 false (fun K w => K x73 w) (fun x75 w =>
 gW x74 false (fun K w => K x7 w) (fun x76 w =>
 gW x74 false (fun K w => lenW x76 K w) (fun x77 w =>
 gW x74 false (fun K w => binIntW .geq x75 x77 K w) (fun x78 w =>
 pickW x74 (Value.bool true) x78 (fun x79 w =>
 gW x79 false (fun K w => K x29 w) (fun x80 w =>
 gW x79 false (fun K w => CP Tryz.prog Fn.view_View_Cells [x80] K w) (fun x81 w =>
 gW x79 false (fun K w => lenW x81 K w) (fun x82 w =>
 gW x79 false (fun K w => binIntW .neq x82 (Value.int .i64 0) K w) (fun x83 w =>
 pickW x79 (Value.bool true) x83 (fun x84 w =>
 gW x84 false (fun K w => K x29 w) (fun x85 w =>
 gW x84 false (fun K w => CP Tryz.prog Fn.view_View_Frees [x85] K w) (fun x86 w =>
 gW x84 false (fun K w => lenW x86 K w) (fun x87 w =>
 gW x84 false (fun K w => binIntW .neq x87 (Value.int .i64 0) K w) (fun x88 w =>
 pickW x84 (Value.bool true) x88 (fun x89 w =>
 gW x89 false (fun K w => K x29 w) (fun x90 w =>
 gW x89 false (fun K w => CP Tryz.prog Fn.view_View_Depth [x90] K w) (fun x91 w =>
 gW x89 false (fun K w => binIntW .neq x91 (Value.int .i64 1) K w) (fun x92 w =>
 pickW x89 (Value.bool true) x92 (fun x93 w =>
 gW x93 false (fun K w => K x29 w) (fun x94 w =>
 gW x93 false (fun K w => K x73 w) (fun x95 w =>
 gW x93 false (fun K w => K x7 w) (fun x96 w =>
 gW x93 false (fun K w => K x73 w) (fun x97 w =>
 gW x93 false (fun K w => idxW 1 x96 x97 K w) (fun x98 w =>
 gW x93 false (fun K w => load1W x98 K w) (fun x99 w =>
 gW x93 false (fun K w => CP Tryz.prog Fn.view_View_Know [x94, x95, x99] K w) (fun x100 w =>
 gW x93 false (fun K w => binIntW .neq x100 (Value.int .i64 0) K w) (fun x101 w =>
 pickW x93 (Value.bool true) x101 (fun x102 w =>
 gW x102 false (fun K w => K x29 w) (fun x103 w =>
 gW x102 false (fun K w => CP Tryz.prog Fn.view_View_Known [x103] K w) (fun x104 w =>
 gW x102 false (fun K w => lenW x104 K w) (fun x105 w =>
 gW x102 false (fun K w => K x41 w) (fun x106 w =>
 gW x102 false (fun K w => binIntW .add x106 (Value.int .i64 1) K w) (fun x107 w =>
 gW x102 false (fun K w => binIntW .neq x105 x107 K w) (fun x108 w =>
 pickW x102 (Value.bool true) x108 (fun x109 w =>
 condP x109 (fun w => K (Value.bool false) w) (fun w => binIntW .add x41 (Value.int .i64 1) (fun x110 w =>
 J2 x110 w) w) w) w) w) w) w) w) w) w) w) w) w) w) w) w) w) w) w) w) w) w) w) w) w) w) w) w) w) w) w) w) w) w) w) w) w) w) w) w) w) w) w) w) w) w) w) w) (fun w => K (Value.bool false) w) w) w) w) w) w) w) w) w) w) w) w) w) w) w) w) w) w) w) w) w) w) w) w) w) w) w) w) w) w) w) w) w) w) w) w) w) w

theorem Q_law18_TableNeeds (a0 a1 : Value) (K : KV) : S_law18_TableNeeds a0 a1 K = P_law18_TableNeeds a0 a1 K := by
  unfold S_law18_TableNeeds P_law18_TableNeeds
  generalize @CP = y_CP
  generalize @binIntW = y_binIntW
  generalize @boxW = y_boxW
  generalize @buildW = y_buildW
  generalize @condP = y_condP
  generalize @eqAggW = y_eqAggW
  generalize @eqNilW = y_eqNilW
  generalize @extractW = y_extractW
  generalize @gW = y_gW
  generalize @idxW = y_idxW
  generalize @lenW = y_lenW
  generalize @load1W = y_load1W
  generalize @loadNW = y_loadNW
  generalize @loopW1 = y_loopW1
  generalize @loopW2 = y_loopW2
  generalize @newW = y_newW
  generalize @notW = y_notW
  generalize @pickW = y_pickW
  generalize @storeW = y_storeW
  rfl

/-- law18_TableApart -/
def P_law18_TableApart (a0 a1 a2 : Value) (K : KV) : World → Prop := fun w =>
 boxW a2 (fun x1 w =>
 CP Tryz.prog Fn.law18_TableRuns [] (fun x2 w =>
 notW x2 (fun x3 w =>
 condP x3 (fun w => K (Value.bool false) w) (fun w => CP Tryz.prog Fn.arena_Fresh [(Value.int .i64 256)] (fun x4 w =>
 buildW [(Value.slice none 0 0), (Value.slice none 0 0), (Value.slice none 0 0), (Value.slice none 0 0), (Value.slice none 0 0), (Value.slice none 0 0), (Value.slice none 0 0), (Value.slice none 0 0)] [] (fun x5 w =>
 boxW x5 (fun x6 w =>
 makeSliceW 1 [(Value.bool false)] (Value.int .i64 257) (Value.int .i64 257) (fun x7 w =>
 loopW2 x4 (Value.int .i64 0) (fun J1 x8 x9 w =>
 lenW a0 (fun x10 w =>
 lenW a1 (fun x11 w =>
 binIntW .add x10 x11 (fun x12 w =>
 binIntW .lss x9 x12 (fun x13 w =>
 gW x13 true (fun K w => K x9 w) (fun x14 w =>
 gW x13 true (fun K w => binIntW .lss x14 (Value.int .i64 24) K w) (fun x15 w =>
 pickW x13 x15 (Value.bool false) (fun x16 w =>
 condP x16 (fun w => buildW [(Value.int .i64 0), (Value.int .i64 0), (Value.int .u64 0), (Value.int .u64 0)] [] (fun x17 w =>
 newW #[(Value.int .i64 0), (Value.int .i64 0), (Value.int .u64 0), (Value.int .u64 0)] (fun x18 w =>
 storeW 4 x18 x17 (fun _ w =>
 lenW a0 (fun x20 w =>
 binIntW .lss x9 x20 (fun x21 w =>
 joinW0 (fun  w =>
 loadNW 4 x18 (fun x22 w =>
 CP Tryz.prog Fn.law18_step [x8, x6, x22] (fun x23 w =>
 extractW 0 x23 (fun x24 w =>
 extractW 1 x23 (fun x25 w =>
 notW x25 (fun x26 w =>
 condP x26 (fun w => K (Value.bool false) w) (fun w => CP Tryz.prog Fn.arena_Blocks [x24] (fun x27 w =>
 extractW 0 x27 (fun x28 w =>
 extractW 1 x27 (fun x29 w =>
 binIntW .neq x29 (Value.int .i64 0) (fun x30 w =>
 condP x30 (fun w => K (Value.bool false) w) (fun w => loopW1 (Value.int .i64 0) (fun J2 x31 w =>
 lenW a0 (fun x32 w =>
 binIntW .lss x9 x32 (fun x33 w =>
 gW x33 true (fun K w => K x31 w) (fun x34 w =>
 gW x33 true (fun K w => K x28 w) (fun x35 w =>
 gW x33 true (fun K w => lenW x35 K w) (fun x36 w =>
 gW x33 true (fun K w => binIntW .lss x34 x36 K w) (fun x37 w =>
 pickW x33 x37 (Value.bool false) (fun x38 w =>
 condP x38 (fun w => idxW 3 x28 x31 (fun x39 w =>
 addW 0 x39 (fun x40 w =>
 load1W x40 (fun x41 w =>
 loopW1 x41 (fun J3 x42 w =>
 drewW (fun w => idxW 3 x28 x31 (fun x43 w =>
 addW 0 x43 (fun x44 w =>
 load1W x44 (fun x45 w =>
 idxW 3 x28 x31 (fun x46 w =>
 addW 1 x46 (fun x47 w =>
 load1W x47 (fun x48 w =>
 CP Tryz.prog Fn.arena_Size [x48] (fun x49 w =>
 andP (fun w => andP (fun w => trueP w) (fun w => andP (fun w => load1W x44 (fun v w => eqP v x45 w) w) (fun w => trueP w) w) w) (fun w =>
 binIntW .add x45 x49 (fun x50 w =>
 binIntW .lss x42 x50 (fun x51 w =>
 gW x51 true (fun K w => K x42 w) (fun x52 w =>
 gW x51 true (fun K w => K x7 w) (fun x53 w =>
 gW x51 true (fun K w => lenW x53 K w) (fun x54 w =>
 gW x51 true (fun K w => binIntW .lss x52 x54 K w) (fun x55 w =>
 pickW x51 x55 (Value.bool false) (fun x56 w =>
 condP x56 (fun w => idxW 3 x28 x31 (fun x57 w =>
 addW 2 x57 (fun x58 w =>
 load1W x58 (fun x59 w =>
 idxW 1 x7 x42 (fun x60 w =>
 storeW 1 x60 x59 (fun _ w =>
 binIntW .add x42 (Value.int .i64 1) (fun x62 w =>
 J3 x62 w) w) w) w) w) w) w) (fun w => binIntW .add x31 (Value.int .i64 1) (fun x63 w =>
 J2 x63 w) w) w) w) w) w) w) w) w) w) w) w) w) w) w) w) w) w) w) w) w) w) w) (fun w => binIntW .add x9 (Value.int .i64 1) (fun x64 w =>
 J1 x24 x64 w) w) w) w) w) w) w) w) w) w) w) w) w) w) w) w) w) w) w) w) w) w) (fun j1 w =>
 condP x21 (fun w => idxW 4 a0 x9 (fun x65 w =>
 loadNW 4 x65 (fun x66 w =>
 CP Tryz.prog Fn.law18_mine [x66] (fun x67 w =>
 storeW 4 x18 x67 (fun _ w =>
 addW 1 x18 (fun x69 w =>
 storeW 1 x69 (Value.int .i64 0) (fun _ w =>
 j1  w) w) w) w) w) w) w) (fun w => lenW a0 (fun x71 w =>
 binIntW .sub x9 x71 (fun x72 w =>
 idxW 4 a1 x72 (fun x73 w =>
 loadNW 4 x73 (fun x74 w =>
 CP Tryz.prog Fn.law18_mine [x74] (fun x75 w =>
 storeW 4 x18 x75 (fun _ w =>
 addW 1 x18 (fun x77 w =>
 storeW 1 x77 (Value.int .i64 1) (fun _ w =>
 j1  w) w) w) w) w) w) w) w) w) w) w) w) w) w) w) w) (fun w => loadNW 4 x1 (fun x79 w =>
 CP Tryz.prog Fn.law18_mine [x79] (fun x80 w =>
 storeW 4 x1 x80 (fun _ w =>
 addW 1 x1 (fun x82 w =>
 storeW 1 x82 (Value.int .i64 1) (fun _ w =>
 loadNW 4 x1 (fun x84 w =>
 CP Tryz.prog Fn.keep_Call_Place [x84] (fun x85 w =>
 binIntW .add (Value.int .i64 6) x85 (fun x86 w =>
 binIntW .sub x86 (Value.int .i64 1) (fun x87 w =>
 idxW 1 x7 x87 (fun x88 w =>
 storeW 1 x88 (Value.bool true) (fun _ w =>
 lenW x8 (fun x90 w =>
 CP Tryz.prog Fn.view_New [x90, (Value.int .i64 96)] (fun x91 w =>
 eqNilW .eql x91 (Value.pointer none) (fun x92 w =>
 condP x92 (fun w => K (Value.bool false) w) (fun w => joinW0 (fun  w =>
 CP Tryz.prog Fn.view_View_Cells [x91] (fun x93 w =>
 loopW1 (Value.int .i64 0) (fun J4 x94 w =>
 lenW x93 (fun x95 w =>
 binIntW .lss x94 x95 (fun x96 w =>
 condP x96 (fun w => idxW 2 x93 x94 (fun x97 w =>
 addW 0 x97 (fun x98 w =>
 load1W x98 (fun x99 w =>
 binIntW .lss x99 (Value.int .i64 1) (fun x100 w =>
 gW x100 false (fun K w => K x93 w) (fun x101 w =>
 gW x100 false (fun K w => K x94 w) (fun x102 w =>
 gW x100 false (fun K w => idxW 2 x101 x102 K w) (fun x103 w =>
 gW x100 false (fun K w => addW 0 x103 K w) (fun x104 w =>
 gW x100 false (fun K w => load1W x104 K w) (fun x105 w =>
 gW x100 false (fun K w => K x7 w) (fun x106 w =>
 gW x100 false (fun K w => lenW x106 K w) (fun x107 w =>
 gW x100 false (fun K w => binIntW .geq x105 x107 K w) (fun x108 w =>
 pickW x100 (Value.bool true) x108 (fun x109 w =>
 gW x109 false (fun K w => K x7 w) (fun x110 w =>
 gW x109 false (fun K w => K x93 w) (fun x111 w =>
 gW x109 false (fun K w => K x94 w) (fun x112 w =>
 gW x109 false (fun K w => idxW 2 x111 x112 K w) (fun x113 w =>
 gW x109 false (fun K w => addW 0 x113 K w) (fun x114 w =>
 gW x109 false (fun K w => load1W x114 K w) (fun x115 w =>
 gW x109 false (fun K w => idxW 1 x110 x115 K w) (fun x116 w =>
 gW x109 false (fun K w => load1W x116 K w) (fun x117 w =>
 pickW x109 (Value.bool true) x117 (fun x118 w =>
 condP x118 (fun w => K (Value.bool false) w) (fun w => binIntW .add x94 (Value.int .i64 1) (fun x119 w =>
 J4 x119 w) w) w) w) w) w) w) w) w) w) w) w) w) w) w) w) w) w) w) w) w) w) w) w) w) (fun w => K (Value.bool true) w) w) w) w) w) w) (fun j2 w =>
 loopW1 (Value.int .i64 0) (fun J5 x120 w =>
 binIntW .lss x120 (Value.int .i64 256) (fun x121 w =>
 condP x121 (fun w => loadNW 4 x1 (fun x122 w =>
 CP Tryz.prog Fn.law18_call [x91, x86, x122] (fun x123 w =>
 extractW 0 x123 (fun x124 w =>
 extractW 1 x123 (fun x125 w =>
 newW #[(Value.int .i64 0), (Value.int .u64 0)] (fun x126 w =>
 storeW 2 x126 x124 (fun _ w =>
 binIntW .neq x125 (Value.int .i64 11) (fun x128 w =>
 condP x128 (fun w => j2  w) (fun w => CP Tryz.prog Fn.view_View_Need [x91] (fun x129 w =>
 binIntW .lss x129 (Value.int .i64 1) (fun x130 w =>
 gW x130 false (fun K w => K x129 w) (fun x131 w =>
 gW x130 false (fun K w => K x8 w) (fun x132 w =>
 gW x130 false (fun K w => lenW x132 K w) (fun x133 w =>
 gW x130 false (fun K w => binIntW .geq x131 x133 K w) (fun x134 w =>
 pickW x130 (Value.bool true) x134 (fun x135 w =>
 gW x135 false (fun K w => K x7 w) (fun x136 w =>
 gW x135 false (fun K w => K x129 w) (fun x137 w =>
 gW x135 false (fun K w => idxW 1 x136 x137 K w) (fun x138 w =>
 gW x135 false (fun K w => load1W x138 K w) (fun x139 w =>
 pickW x135 (Value.bool true) x139 (fun x140 w =>
 gW x140 false (fun K w => K x91 w) (fun x141 w =>
 gW x140 false (fun K w => K x129 w) (fun x142 w =>
 gW x140 false (fun K w => K x8 w) (fun x143 w =>
 gW x140 false (fun K w => K x129 w) (fun x144 w =>
 gW x140 false (fun K w => idxW 1 x143 x144 K w) (fun x145 w =>
 gW x140 false (fun K w => load1W x145 K w) (fun x146 w =>
 gW x140 false (fun K w => CP Tryz.prog Fn.view_View_Know [x141, x142, x146] K w) (fun x147 w =>
 gW x140 false (fun K w => binIntW .neq x147 (Value.int .i64 0) K w) (fun x148 w =>
 pickW x140 (Value.bool true) x148 (fun x149 w =>
 condP x149 (fun w => K (Value.bool false) w) (fun w => binIntW .add x120 (Value.int .i64 1) (fun x150 w =>
 J5 x150 w) w) w) w) w) w) w) w) w) w) w) w) w) w) w) w) w) w) w) w) w) w) w) w) w) w) w) w) w) w) w) w) (fun w => j2  w) w) w) w) w) w) w) w) w) w) w) w) w) w) w) w) w) w) w) w) w) w) w) w) w) w) w) w) w) w) w) w) w) w) w) w) w

theorem Q_law18_TableApart (a0 a1 a2 : Value) (K : KV) : S_law18_TableApart a0 a1 a2 K = P_law18_TableApart a0 a1 a2 K := by
  unfold S_law18_TableApart P_law18_TableApart
  generalize @CP = y_CP
  generalize @addW = y_addW
  generalize @andP = y_andP
  generalize @binIntW = y_binIntW
  generalize @boxW = y_boxW
  generalize @buildW = y_buildW
  generalize @condP = y_condP
  generalize @drewW = y_drewW
  generalize @eqNilW = y_eqNilW
  generalize @eqP = y_eqP
  generalize @extractW = y_extractW
  generalize @gW = y_gW
  generalize @idxW = y_idxW
  generalize @joinW0 = y_joinW0
  generalize @lenW = y_lenW
  generalize @load1W = y_load1W
  generalize @loadNW = y_loadNW
  generalize @loopW1 = y_loopW1
  generalize @loopW2 = y_loopW2
  generalize @makeSliceW = y_makeSliceW
  generalize @newW = y_newW
  generalize @notW = y_notW
  generalize @pickW = y_pickW
  generalize @storeW = y_storeW
  rfl

/-- law18_TableBlocks -/
def P_law18_TableBlocks (a0 a1 : Value) (K : KV) : World → Prop := fun w =>
 CP Tryz.prog Fn.law18_TableRuns [] (fun x1 w =>
 notW x1 (fun x2 w =>
 condP x2 (fun w => K (Value.bool false) w) (fun w => CP Tryz.prog Fn.arena_Fresh [(Value.int .i64 256)] (fun x3 w =>
 buildW [(Value.slice none 0 0), (Value.slice none 0 0), (Value.slice none 0 0), (Value.slice none 0 0), (Value.slice none 0 0), (Value.slice none 0 0), (Value.slice none 0 0), (Value.slice none 0 0)] [] (fun x4 w =>
 boxW x4 (fun x5 w =>
 loopW2 x3 (Value.int .i64 0) (fun J1 x6 x7 w =>
 binIntW .rem a1 (Value.int .u8 3) (fun x8 w =>
 convW .i64 x8 (fun x9 w =>
 binIntW .leq x7 x9 (fun x10 w =>
 condP x10 (fun w => loopW2 x6 (Value.int .i64 0) (fun J2 x11 x12 w =>
 lenW a0 (fun x13 w =>
 binIntW .lss x12 x13 (fun x14 w =>
 gW x14 true (fun K w => K x12 w) (fun x15 w =>
 gW x14 true (fun K w => binIntW .lss x15 (Value.int .i64 20) K w) (fun x16 w =>
 pickW x14 x16 (Value.bool false) (fun x17 w =>
 condP x17 (fun w => idxW 4 a0 x12 (fun x18 w =>
 loadNW 4 x18 (fun x19 w =>
 CP Tryz.prog Fn.law18_mine [x19] (fun x20 w =>
 newW #[(Value.int .i64 0), (Value.int .i64 0), (Value.int .u64 0), (Value.int .u64 0)] (fun x21 w =>
 storeW 4 x21 x20 (fun _ w =>
 addW 1 x21 (fun x23 w =>
 storeW 1 x23 (Value.int .i64 0) (fun _ w =>
 loadNW 4 x21 (fun x25 w =>
 CP Tryz.prog Fn.law18_step [x11, x5, x25] (fun x26 w =>
 extractW 0 x26 (fun x27 w =>
 extractW 1 x26 (fun x28 w =>
 notW x28 (fun x29 w =>
 condP x29 (fun w => K (Value.bool false) w) (fun w => drewW (fun w => loadNW 4 x21 (fun x30 w =>
 nilW x5 (fun x31 w =>
 addW 0 x31 (fun x32 w =>
 CP Tryz.prog Fn.keep_Call_Place [x30] (fun x33 w =>
 andP (fun w => andP (fun w => trueP w) (fun w => trueP w) w) (fun w =>
 idxArrW 8 1 x32 x33 (fun x34 w =>
 load1W x34 (fun x35 w =>
 lenW x35 (fun x36 w =>
 CP Tryz.prog Fn.arena_Lists [x27] (fun x37 w =>
 extractW 0 x37 (fun x38 w =>
 extractW 1 x37 (fun x39 w =>
 binIntW .neq x39 (Value.int .i64 0) (fun x40 w =>
 gW x40 false (fun K w => K x27 w) (fun x41 w =>
 gW x40 false (fun K w => CP Tryz.prog Fn.law18_live [x41] K w) (fun x42 w =>
 gW x40 false (fun K w => K x36 w) (fun x43 w =>
 gW x40 false (fun K w => binIntW .mul (Value.int .i64 2) x43 K w) (fun x44 w =>
 gW x40 false (fun K w => binIntW .add x44 (Value.int .i64 2) K w) (fun x45 w =>
 gW x40 false (fun K w => binIntW .gtr x42 x45 K w) (fun x46 w =>
 pickW x40 (Value.bool true) x46 (fun x47 w =>
 condP x47 (fun w => K (Value.bool false) w) (fun w => binIntW .add x12 (Value.int .i64 1) (fun x48 w =>
 J2 x27 x48 w) w) w) w) w) w) w) w) w) w) w) w) w) w) w) w) w) w) w) w) w) w) w) w) w) w) w) w) w) w) w) w) w) w) w) w) (fun w => binIntW .add x7 (Value.int .i64 1) (fun x49 w =>
 J1 x11 x49 w) w) w) w) w) w) w) w) w) (fun w => K (Value.bool true) w) w) w) w) w) w) w) w) w) w) w) w

theorem Q_law18_TableBlocks (a0 a1 : Value) (K : KV) : S_law18_TableBlocks a0 a1 K = P_law18_TableBlocks a0 a1 K := by
  unfold S_law18_TableBlocks P_law18_TableBlocks
  generalize @CP = y_CP
  generalize @addW = y_addW
  generalize @andP = y_andP
  generalize @binIntW = y_binIntW
  generalize @boxW = y_boxW
  generalize @buildW = y_buildW
  generalize @condP = y_condP
  generalize @convW = y_convW
  generalize @drewW = y_drewW
  generalize @extractW = y_extractW
  generalize @gW = y_gW
  generalize @idxArrW = y_idxArrW
  generalize @idxW = y_idxW
  generalize @lenW = y_lenW
  generalize @load1W = y_load1W
  generalize @loadNW = y_loadNW
  generalize @loopW2 = y_loopW2
  generalize @newW = y_newW
  generalize @nilW = y_nilW
  generalize @notW = y_notW
  generalize @pickW = y_pickW
  generalize @storeW = y_storeW
  rfl

/-- law18_TableRuns -/
def P_law18_TableRuns (K : KV) : World → Prop := fun w =>
 CP Tryz.prog Fn.arena_Fresh [(Value.int .i64 100)] (fun x1 w =>
 CP Tryz.prog Fn.view_Whole [x1, (Value.int .i64 96)] (fun x2 w =>
 eqNilW .eql x2 (Value.pointer none) (fun x3 w =>
 condP x3 (fun w => K (Value.bool false) w) (fun w => CP Tryz.prog Fn.table_Put [x2, (Value.int .i64 6), (Value.int .u64 9), (Value.int .u64 1)] (fun x4 w =>
 extractW 0 x4 (fun x5 w =>
 extractW 1 x4 (fun x6 w =>
 CP Tryz.prog Fn.table_Put [x2, (Value.int .i64 6), (Value.int .u64 9), (Value.int .u64 2)] (fun x7 w =>
 extractW 0 x7 (fun x8 w =>
 extractW 1 x7 (fun x9 w =>
 CP Tryz.prog Fn.table_Get [x2, (Value.int .i64 6), (Value.int .u64 9)] (fun x10 w =>
 extractW 0 x10 (fun x11 w =>
 extractW 1 x10 (fun x12 w =>
 extractW 2 x10 (fun x13 w =>
 CP Tryz.prog Fn.table_All [x2, (Value.int .i64 6)] (fun x14 w =>
 extractW 0 x14 (fun x15 w =>
 extractW 1 x14 (fun x16 w =>
 CP Tryz.prog Fn.table_Get [x2, (Value.int .i64 5), (Value.int .u64 9)] (fun x17 w =>
 extractW 0 x17 (fun x18 w =>
 extractW 1 x17 (fun x19 w =>
 extractW 2 x17 (fun x20 w =>
 gW x5 true (fun K w => K x6 w) (fun x21 w =>
 gW x5 true (fun K w => binIntW .eql x21 (Value.int .i64 0) K w) (fun x22 w =>
 pickW x5 x22 (Value.bool false) (fun x23 w =>
 gW x23 true (fun K w => K x8 w) (fun x24 w =>
 gW x23 true (fun K w => notW x24 K w) (fun x25 w =>
 pickW x23 x25 (Value.bool false) (fun x26 w =>
 gW x26 true (fun K w => K x9 w) (fun x27 w =>
 gW x26 true (fun K w => binIntW .eql x27 (Value.int .i64 0) K w) (fun x28 w =>
 pickW x26 x28 (Value.bool false) (fun x29 w =>
 gW x29 true (fun K w => K x11 w) (fun x30 w =>
 gW x29 true (fun K w => binIntW .eql x30 (Value.int .u64 2) K w) (fun x31 w =>
 pickW x29 x31 (Value.bool false) (fun x32 w =>
 gW x32 true (fun K w => K x12 w) (fun x33 w =>
 pickW x32 x33 (Value.bool false) (fun x34 w =>
 gW x34 true (fun K w => K x13 w) (fun x35 w =>
 gW x34 true (fun K w => binIntW .eql x35 (Value.int .i64 0) K w) (fun x36 w =>
 pickW x34 x36 (Value.bool false) (fun x37 w =>
 gW x37 true (fun K w => K x16 w) (fun x38 w =>
 gW x37 true (fun K w => binIntW .eql x38 (Value.int .i64 0) K w) (fun x39 w =>
 pickW x37 x39 (Value.bool false) (fun x40 w =>
 gW x40 true (fun K w => K x15 w) (fun x41 w =>
 gW x40 true (fun K w => lenW x41 K w) (fun x42 w =>
 gW x40 true (fun K w => binIntW .eql x42 (Value.int .i64 1) K w) (fun x43 w =>
 pickW x40 x43 (Value.bool false) (fun x44 w =>
 gW x44 true (fun K w => K x15 w) (fun x45 w =>
 gW x44 true (fun K w => idxW 2 x45 (Value.int .i64 0) K w) (fun x46 w =>
 gW x44 true (fun K w => loadNW 2 x46 K w) (fun x47 w =>
 gW x44 true (fun K w => buildW [(Value.int .u64 0), (Value.int .u64 0)] [(0, 1, (Value.int .u64 9)), (1, 1, (Value.int .u64 2))] K w) (fun x48 w =>
 gW x44 true (fun K w => eqAggW [.i .u64, .i .u64] .eql x47 x48 K w) (fun x49 w =>
 pickW x44 x49 (Value.bool false) (fun x50 w =>
 gW x50 true (fun K w => K x20 w) (fun x51 w =>
 gW x50 true (fun K w => binIntW .eql x51 (Value.int .i64 2) K w) (fun x52 w =>
 pickW x50 x52 (Value.bool false) (fun x53 w =>
 K x53 w) w) w) w) w) w) w) w) w) w) w) w) w) w) w) w) w) w) w) w) w) w) w) w) w) w) w) w) w) w) w) w) w) w) w) w) w) w) w) w) w) w) w) w) w) w) w) w) w) w) w) w) w) w) w

theorem Q_law18_TableRuns (K : KV) : S_law18_TableRuns K = P_law18_TableRuns K := by
  unfold S_law18_TableRuns P_law18_TableRuns
  generalize @CP = y_CP
  generalize @binIntW = y_binIntW
  generalize @buildW = y_buildW
  generalize @condP = y_condP
  generalize @eqAggW = y_eqAggW
  generalize @eqNilW = y_eqNilW
  generalize @extractW = y_extractW
  generalize @gW = y_gW
  generalize @idxW = y_idxW
  generalize @lenW = y_lenW
  generalize @loadNW = y_loadNW
  generalize @notW = y_notW
  generalize @pickW = y_pickW
  rfl

/-- arena_Fresh -/
def P_arena_Fresh (a0 : Value) (K : KV) : World → Prop := fun w =>
 minW a0 [(Value.int .i64 256)] (fun x1 w =>
 maxW (Value.int .i64 32) [x1] (fun x2 w =>
 makeSliceW 8 [(Value.int .u64 0)] x2 x2 (fun x3 w =>
 idxW 1 x3 (Value.int .i64 5) (fun x4 w =>
 storeW 1 x4 (Value.int .u64 14) (fun _ w =>
 K x3 w) w) w) w) w) w

theorem Q_arena_Fresh (a0 : Value) (K : KV) : S_arena_Fresh a0 K = P_arena_Fresh a0 K := by
  unfold S_arena_Fresh P_arena_Fresh
  generalize @idxW = y_idxW
  generalize @makeSliceW = y_makeSliceW
  generalize @maxW = y_maxW
  generalize @minW = y_minW
  generalize @storeW = y_storeW
  rfl

/-- law18_step -/
def P_law18_step (a0 a1 a2 : Value) (K : KV) : World → Prop := fun w =>
 boxW a2 (fun x1 w =>
 CP Tryz.prog Fn.view_Whole [a0, (Value.int .i64 96)] (fun x2 w =>
 eqNilW .eql x2 (Value.pointer none) (fun x3 w =>
 condP x3 (fun w => K (Value.tuple #[a0, (Value.bool false)]) w) (fun w => loadNW 4 x1 (fun x4 w =>
 CP Tryz.prog Fn.keep_Call_Place [x4] (fun x5 w =>
 binIntW .add (Value.int .i64 6) x5 (fun x6 w =>
 loadNW 4 x1 (fun x7 w =>
 CP Tryz.prog Fn.law18_call [x2, x6, x7] (fun x8 w =>
 extractW 0 x8 (fun x9 w =>
 extractW 1 x8 (fun x10 w =>
 newW #[(Value.int .i64 0), (Value.int .u64 0)] (fun x11 w =>
 storeW 2 x11 x9 (fun _ w =>
 binIntW .eql x10 (Value.int .i64 4) (fun x13 w =>
 gW x13 true (fun K w => K a0 w) (fun x14 w =>
 gW x13 true (fun K w => lenW x14 K w) (fun x15 w =>
 gW x13 true (fun K w => binIntW .gtr x15 (Value.int .i64 5) K w) (fun x16 w =>
 pickW x13 x16 (Value.bool false) (fun x17 w =>
 gW x17 true (fun K w => K a0 w) (fun x18 w =>
 gW x17 true (fun K w => idxW 1 x18 (Value.int .i64 5) K w) (fun x19 w =>
 gW x17 true (fun K w => load1W x19 K w) (fun x20 w =>
 gW x17 true (fun K w => binIntW .add x20 (Value.int .u64 40) K w) (fun x21 w =>
 gW x17 true (fun K w => K a0 w) (fun x22 w =>
 gW x17 true (fun K w => lenW x22 K w) (fun x23 w =>
 gW x17 true (fun K w => convW .u64 x23 K w) (fun x24 w =>
 gW x17 true (fun K w => binIntW .gtr x21 x24 K w) (fun x25 w =>
 pickW x17 x25 (Value.bool false) (fun x26 w =>
 condP x26 (fun w => CP Tryz.prog Fn.view_View_Cells [x2] (fun x27 w =>
 lenW x27 (fun x28 w =>
 binIntW .eql x28 (Value.int .i64 0) (fun x29 w =>
 gW x29 true (fun K w => K x2 w) (fun x30 w =>
 gW x29 true (fun K w => CP Tryz.prog Fn.view_View_Frees [x30] K w) (fun x31 w =>
 gW x29 true (fun K w => lenW x31 K w) (fun x32 w =>
 gW x29 true (fun K w => binIntW .eql x32 (Value.int .i64 0) K w) (fun x33 w =>
 pickW x29 x33 (Value.bool false) (fun x34 w =>
 gW x34 true (fun K w => K x2 w) (fun x35 w =>
 gW x34 true (fun K w => CP Tryz.prog Fn.view_View_Depth [x35] K w) (fun x36 w =>
 gW x34 true (fun K w => binIntW .eql x36 (Value.int .i64 1) K w) (fun x37 w =>
 pickW x34 x37 (Value.bool false) (fun x38 w =>
 K (Value.tuple #[a0, x38]) w) w) w) w) w) w) w) w) w) w) w) w) w) (fun w => loadNW 4 x1 (fun x39 w =>
 CP Tryz.prog Fn.keep_Objects_Do [a1, x39] (fun x40 w =>
 extractW 0 x40 (fun x41 w =>
 extractW 1 x40 (fun x42 w =>
 newW #[(Value.int .i64 0), (Value.int .u64 0)] (fun x43 w =>
 storeW 2 x43 x41 (fun _ w =>
 binIntW .neq x10 (Value.int .i64 0) (fun x45 w =>
 gW x45 false (fun K w => K x42 w) (fun x46 w =>
 gW x45 false (fun K w => K x46 w) (fun x47 w =>
 gW x47 true (fun K w => loadNW 2 x11 K w) (fun x48 w =>
 gW x47 true (fun K w => loadNW 2 x43 K w) (fun x49 w =>
 gW x47 true (fun K w => eqAggW [.i .i64, .i .u64] .neq x48 x49 K w) (fun x50 w =>
 gW x45 false (fun K w => pickW x47 x50 (Value.bool false) K w) (fun x51 w =>
 pickW x45 (Value.bool true) x51 (fun x52 w =>
 gW x52 false (fun K w => K x42 w) (fun x53 w =>
 gW x52 false (fun K w => notW x53 K w) (fun x54 w =>
 gW x52 false (fun K w => K x54 w) (fun x55 w =>
 gW x55 true (fun K w => loadNW 2 x11 K w) (fun x56 w =>
 gW x55 true (fun K w => buildW [(Value.int .i64 0), (Value.int .u64 0)] [] K w) (fun x57 w =>
 gW x55 true (fun K w => eqAggW [.i .i64, .i .u64] .neq x56 x57 K w) (fun x58 w =>
 gW x52 false (fun K w => pickW x55 x58 (Value.bool false) K w) (fun x59 w =>
 pickW x52 (Value.bool true) x59 (fun x60 w =>
 gW x60 false (fun K w => K x2 w) (fun x61 w =>
 gW x60 false (fun K w => CP Tryz.prog Fn.view_View_Depth [x61] K w) (fun x62 w =>
 gW x60 false (fun K w => binIntW .neq x62 (Value.int .i64 1) K w) (fun x63 w =>
 pickW x60 (Value.bool true) x63 (fun x64 w =>
 condP x64 (fun w => K (Value.tuple #[a0, (Value.bool false)]) w) (fun w => CP Tryz.prog Fn.law18_settle [a0, x2] (fun x65 w =>
 extractW 0 x65 (fun x66 w =>
 extractW 1 x65 (fun x67 w =>
 CP Tryz.prog Fn.view_Whole [x66, (Value.int .i64 96)] (fun x68 w =>
 notW x67 (fun x69 w =>
 gW x69 false (fun K w => K x68 w) (fun x70 w =>
 gW x69 false (fun K w => eqNilW .eql x70 (Value.pointer none) K w) (fun x71 w =>
 pickW x69 (Value.bool true) x71 (fun x72 w =>
 condP x72 (fun w => K (Value.tuple #[x66, (Value.bool false)]) w) (fun w => CP Tryz.prog Fn.law18_all [x68, x6] (fun x73 w =>
 extractW 0 x73 (fun x74 w =>
 extractW 1 x73 (fun x75 w =>
 drewW (fun w => binIntW .eql x75 (Value.int .i64 0) (fun x76 w =>
 gW x76 true (fun K w => K x74 w) (fun x77 w =>
 gW x76 true (fun K w => K a1 w) (fun x78 w =>
 gW x76 true (fun K w => loadNW 4 x1 K w) (fun x79 w =>
 gW x76 true (fun K w => nilW x78 K w) (fun x80 w =>
 gW x76 true (fun K w => addW 0 x80 K w) (fun x81 w =>
 gW x76 true (fun K w => CP Tryz.prog Fn.keep_Call_Place [x79] K w) (fun x82 w =>
 andP (fun w => andP (fun w => trueP w) (fun w => trueP w) w) (fun w =>
 gW x76 true (fun K w => idxArrW 8 1 x81 x82 K w) (fun x83 w =>
 gW x76 true (fun K w => load1W x83 K w) (fun x84 w =>
 gW x76 true (fun K w => CP Tryz.prog Fn.book_Same_api_Pair [x77, x84] K w) (fun x85 w =>
 andP (fun w => andP (fun w => trueP w) (fun w => trueP w) w) (fun w =>
 pickW x76 x85 (Value.bool false) (fun x86 w =>
 gW x86 true (fun K w => K x68 w) (fun x87 w =>
 gW x86 true (fun K w => CP Tryz.prog Fn.view_View_Cells [x87] K w) (fun x88 w =>
 andP (fun w => trueP w) (fun w =>
 gW x86 true (fun K w => lenW x88 K w) (fun x89 w =>
 gW x86 true (fun K w => binIntW .eql x89 (Value.int .i64 0) K w) (fun x90 w =>
 pickW x86 x90 (Value.bool false) (fun x91 w =>
 K (Value.tuple #[x66, x91]) w) w) w) w) w) w) w) w) w) w) w) w) w) w) w) w) w) w) w) w) w) w) w) w) w) w) w) w) w) w) w) w) w) w) w) w) w) w) w) w) w) w) w) w) w) w) w) w) w) w) w) w) w) w) w) w) w) w) w) w) w) w) w) w) w) w) w) w) w) w) w) w) w) w) w) w) w) w) w) w) w) w) w) w) w) w) w) w

theorem Q_law18_step (a0 a1 a2 : Value) (K : KV) : S_law18_step a0 a1 a2 K = P_law18_step a0 a1 a2 K := by
  unfold S_law18_step P_law18_step
  generalize @CP = y_CP
  generalize @addW = y_addW
  generalize @andP = y_andP
  generalize @binIntW = y_binIntW
  generalize @boxW = y_boxW
  generalize @buildW = y_buildW
  generalize @condP = y_condP
  generalize @convW = y_convW
  generalize @drewW = y_drewW
  generalize @eqAggW = y_eqAggW
  generalize @eqNilW = y_eqNilW
  generalize @extractW = y_extractW
  generalize @gW = y_gW
  generalize @idxArrW = y_idxArrW
  generalize @idxW = y_idxW
  generalize @lenW = y_lenW
  generalize @load1W = y_load1W
  generalize @loadNW = y_loadNW
  generalize @newW = y_newW
  generalize @nilW = y_nilW
  generalize @notW = y_notW
  generalize @pickW = y_pickW
  generalize @storeW = y_storeW
  rfl

/-- law18_mine -/
def P_law18_mine (a0 : Value) (K : KV) : World → Prop := fun w =>
 boxW a0 (fun x1 w =>
 newW #[(Value.int .i64 0), (Value.int .i64 0), (Value.int .u64 0), (Value.int .u64 0)] (fun x2 w =>
 addW 0 x1 (fun x3 w =>
 load1W x3 (fun x4 w =>
 CP Tryz.prog Fn.book_Within [x4, (Value.int .i64 4), (Value.int .i64 6)] (fun x5 w =>
 addW 0 x1 (fun x6 w =>
 storeW 1 x6 x5 (fun _ w =>
 loadNW 4 x1 (fun x8 w =>
 storeW 4 x2 x8 (fun _ w =>
 loadNW 4 x2 (fun x10 w =>
 K x10 w) w) w) w) w) w) w) w) w) w) w

theorem Q_law18_mine (a0 : Value) (K : KV) : S_law18_mine a0 K = P_law18_mine a0 K := by
  unfold S_law18_mine P_law18_mine
  generalize @CP = y_CP
  generalize @addW = y_addW
  generalize @boxW = y_boxW
  generalize @load1W = y_load1W
  generalize @loadNW = y_loadNW
  generalize @newW = y_newW
  generalize @storeW = y_storeW
  rfl

/-- view_New -/
def P_view_New (a0 a1 : Value) (K : KV) : World → Prop := fun w =>
 drewW (fun w => minW a0 [(Value.int .i64 256)] (fun x1 w =>
 maxW (Value.int .i64 32) [x1] (fun x2 w =>
 andP (fun w => makeSliceW 16 [(Value.int .u64 0), (Value.bool false)] x2 x2 (fun x3 w =>
 andP (fun w => trueP w) (fun w =>
 CP Tryz.prog Fn.levels_New [a1] (fun x4 w =>
 andP (fun w => trueP w) (fun w =>
 buildW [(Value.slice none 0 0), (Value.slice none 0 0), (Value.pointer none), (Value.int .i64 0)] [(0, 1, x3), (2, 1, x4)] (fun x5 w =>
 boxW x5 (fun x6 w =>
 andP (fun w => trueP w) (fun w =>
 K x6 w) w) w) w) w) w) w) w) (fun w => CP Tryz.prog Fn.levels_New [a1] (fun x7 w =>
 andP (fun w => trueP w) (fun w =>
 makeSliceW 16 [(Value.int .u64 0), (Value.bool false)] x2 x2 (fun x8 w =>
 andP (fun w => trueP w) (fun w =>
 buildW [(Value.slice none 0 0), (Value.slice none 0 0), (Value.pointer none), (Value.int .i64 0)] [(0, 1, x8), (2, 1, x7)] (fun x9 w =>
 boxW x9 (fun x10 w =>
 andP (fun w => trueP w) (fun w =>
 K x10 w) w) w) w) w) w) w) w) w) w) w) w

theorem Q_view_New (a0 a1 : Value) (K : KV) : S_view_New a0 a1 K = P_view_New a0 a1 K := by
  unfold S_view_New P_view_New
  generalize @CP = y_CP
  generalize @andP = y_andP
  generalize @boxW = y_boxW
  generalize @buildW = y_buildW
  generalize @drewW = y_drewW
  generalize @makeSliceW = y_makeSliceW
  generalize @maxW = y_maxW
  generalize @minW = y_minW
  rfl

/-- view_Whole -/
def P_view_Whole (a0 a1 : Value) (K : KV) : World → Prop := fun w =>
 lenW a0 (fun x1 w =>
 CP Tryz.prog Fn.view_New [x1, a1] (fun x2 w =>
 loopW1 (Value.int .i64 1) (fun J1 x3 w =>
 CP Tryz.prog Fn.view_View_Size [x2] (fun x4 w =>
 binIntW .lss x3 x4 (fun x5 w =>
 condP x5 (fun w => lenW a0 (fun x6 w =>
 binIntW .lss x3 x6 (fun x7 w =>
 joinW1 (fun x8 w =>
 CP Tryz.prog Fn.view_View_Know [x2, x3, x8] (fun x9 w =>
 binIntW .add x3 (Value.int .i64 1) (fun x10 w =>
 J1 x10 w) w) w) (fun j1 w =>
 condP x7 (fun w => idxW 1 a0 x3 (fun x11 w =>
 load1W x11 (fun x12 w =>
 j1 x12 w) w) w) (fun w => j1 (Value.int .u64 0) w) w) w) w) w) (fun w => K x2 w) w) w) w) w) w) w

theorem Q_view_Whole (a0 a1 : Value) (K : KV) : S_view_Whole a0 a1 K = P_view_Whole a0 a1 K := by
  unfold S_view_Whole P_view_Whole
  generalize @CP = y_CP
  generalize @binIntW = y_binIntW
  generalize @condP = y_condP
  generalize @idxW = y_idxW
  generalize @joinW1 = y_joinW1
  generalize @lenW = y_lenW
  generalize @load1W = y_load1W
  generalize @loopW1 = y_loopW1
  rfl

/-- law18_call -/
def P_law18_call (a0 a1 a2 : Value) (K : KV) : World → Prop := fun w =>
 boxW a2 (fun x1 w =>
 newW #[(Value.int .i64 0), (Value.int .u64 0)] (fun x2 w =>
 loadNW 4 x1 (fun x3 w =>
 CP Tryz.prog Fn.keep_Call_Which [x3] (fun x4 w =>
 binIntW .eql x4 (Value.int .i64 4) (fun x5 w =>
 joinW2 (fun x6 x7 w =>
 condP x6 (fun w => buildW [(Value.int .i64 0), (Value.int .u64 0)] [(0, 1, (Value.int .i64 2)), (1, 1, (Value.int .u64 1))] (fun x8 w =>
 storeW 2 x2 x8 (fun _ w =>
 loadNW 2 x2 (fun x10 w =>
 K (Value.tuple #[x10, x7]) w) w) w) w) (fun w => buildW [(Value.int .i64 0), (Value.int .u64 0)] [(0, 1, (Value.int .i64 2))] (fun x11 w =>
 storeW 2 x2 x11 (fun _ w =>
 loadNW 2 x2 (fun x13 w =>
 K (Value.tuple #[x13, x7]) w) w) w) w) w) (fun j1 w =>
 condP x5 (fun w => drewW (fun w => loadNW 4 x1 (fun x14 w =>
 loadNW 4 x1 (fun x15 w =>
 CP Tryz.prog Fn.keep_Call_Key [x14] (fun x16 w =>
 andP (fun w => andP (fun w => loadNW 4 x1 (fun v w => eqP v x15 w) w) (fun w => andP (fun w => trueP w) (fun w => trueP w) w) w) (fun w =>
 CP Tryz.prog Fn.keep_Call_Val [x15] (fun x17 w =>
 andP (fun w => andP (fun w => trueP w) (fun w => trueP w) w) (fun w =>
 CP Tryz.prog Fn.table_Put [a0, a1, x16, x17] (fun x18 w =>
 andP (fun w => trueP w) (fun w =>
 extractW 0 x18 (fun x19 w =>
 extractW 1 x18 (fun x20 w =>
 j1 x19 x20 w) w) w) w) w) w) w) w) w) w) w) w) (fun w => binIntW .eql x4 (Value.int .i64 5) (fun x21 w =>
 condP x21 (fun w => loadNW 4 x1 (fun x22 w =>
 CP Tryz.prog Fn.keep_Call_Key [x22] (fun x23 w =>
 CP Tryz.prog Fn.table_Get [a0, a1, x23] (fun x24 w =>
 extractW 0 x24 (fun x25 w =>
 extractW 1 x24 (fun x26 w =>
 extractW 2 x24 (fun x27 w =>
 notW x26 (fun x28 w =>
 condP x28 (fun w => buildW [(Value.int .i64 0), (Value.int .u64 0)] [(0, 1, (Value.int .i64 3)), (1, 1, x25)] (fun x29 w =>
 storeW 2 x2 x29 (fun _ w =>
 loadNW 2 x2 (fun x31 w =>
 K (Value.tuple #[x31, x27]) w) w) w) w) (fun w => buildW [(Value.int .i64 0), (Value.int .u64 0)] [(0, 1, (Value.int .i64 1)), (1, 1, x25)] (fun x32 w =>
 storeW 2 x2 x32 (fun _ w =>
 loadNW 2 x2 (fun x34 w =>
 K (Value.tuple #[x34, x27]) w) w) w) w) w) w) w) w) w) w) w) w) (fun w => loadNW 4 x1 (fun x35 w =>
 CP Tryz.prog Fn.keep_Call_Key [x35] (fun x36 w =>
 CP Tryz.prog Fn.table_Del [a0, a1, x36] (fun x37 w =>
 extractW 0 x37 (fun x38 w =>
 extractW 1 x37 (fun x39 w =>
 j1 x38 x39 w) w) w) w) w) w) w) w) w) w) w) w) w) w) w

theorem Q_law18_call (a0 a1 a2 : Value) (K : KV) : S_law18_call a0 a1 a2 K = P_law18_call a0 a1 a2 K := by
  unfold S_law18_call P_law18_call
  generalize @CP = y_CP
  generalize @andP = y_andP
  generalize @binIntW = y_binIntW
  generalize @boxW = y_boxW
  generalize @buildW = y_buildW
  generalize @condP = y_condP
  generalize @drewW = y_drewW
  generalize @eqP = y_eqP
  generalize @extractW = y_extractW
  generalize @joinW2 = y_joinW2
  generalize @loadNW = y_loadNW
  generalize @newW = y_newW
  generalize @notW = y_notW
  generalize @storeW = y_storeW
  rfl

/-- book_Same_api_Cell -/
def P_book_Same_api_Cell (a0 a1 : Value) (K : KV) : World → Prop := fun w =>
 lenW a0 (fun x1 w =>
 lenW a1 (fun x2 w =>
 binIntW .neq x1 x2 (fun x3 w =>
 condP x3 (fun w => K (Value.bool false) w) (fun w => loopW1 (Value.int .i64 0) (fun J1 x4 w =>
 lenW a0 (fun x5 w =>
 binIntW .lss x4 x5 (fun x6 w =>
 condP x6 (fun w => drewW (fun w => idxW 2 a0 x4 (fun x7 w =>
 loadNW 2 x7 (fun x8 w =>
 idxW 2 a1 x4 (fun x9 w =>
 loadNW 2 x9 (fun x10 w =>
 eqAggW [.i .i64, .i .u64] .neq x8 x10 (fun x11 w =>
 condP x11 (fun w => K (Value.bool false) w) (fun w => binIntW .add x4 (Value.int .i64 1) (fun x12 w =>
 J1 x12 w) w) w) w) w) w) w) w) w) (fun w => K (Value.bool true) w) w) w) w) w) w) w) w) w

theorem Q_book_Same_api_Cell (a0 a1 : Value) (K : KV) : S_book_Same_api_Cell a0 a1 K = P_book_Same_api_Cell a0 a1 K := by
  unfold S_book_Same_api_Cell P_book_Same_api_Cell
  generalize @binIntW = y_binIntW
  generalize @condP = y_condP
  generalize @drewW = y_drewW
  generalize @eqAggW = y_eqAggW
  generalize @idxW = y_idxW
  generalize @lenW = y_lenW
  generalize @loadNW = y_loadNW
  generalize @loopW1 = y_loopW1
  rfl

/-- view_View_Cells -/
def P_view_View_Cells (a0 : Value) (K : KV) : World → Prop := fun w =>
 nilW a0 (fun x1 w =>
 addW 2 x1 (fun x2 w =>
 load1W x2 (fun x3 w =>
 CP Tryz.prog Fn.levels_Levels_Cells [x3] (fun x4 w =>
 K x4 w) w) w) w) w

theorem Q_view_View_Cells (a0 : Value) (K : KV) : S_view_View_Cells a0 K = P_view_View_Cells a0 K := by
  unfold S_view_View_Cells P_view_View_Cells
  generalize @CP = y_CP
  generalize @addW = y_addW
  generalize @load1W = y_load1W
  generalize @nilW = y_nilW
  rfl

/-- book_Same_int -/
def P_book_Same_int (a0 a1 : Value) (K : KV) : World → Prop := fun w =>
 lenW a0 (fun x1 w =>
 lenW a1 (fun x2 w =>
 binIntW .neq x1 x2 (fun x3 w =>
 condP x3 (fun w => K (Value.bool false) w) (fun w => loopW1 (Value.int .i64 0) (fun J1 x4 w =>
 lenW a0 (fun x5 w =>
 binIntW .lss x4 x5 (fun x6 w =>
 condP x6 (fun w => drewW (fun w => idxW 1 a0 x4 (fun x7 w =>
 load1W x7 (fun x8 w =>
 idxW 1 a1 x4 (fun x9 w =>
 load1W x9 (fun x10 w =>
 binIntW .neq x8 x10 (fun x11 w =>
 condP x11 (fun w => K (Value.bool false) w) (fun w => binIntW .add x4 (Value.int .i64 1) (fun x12 w =>
 J1 x12 w) w) w) w) w) w) w) w) w) (fun w => K (Value.bool true) w) w) w) w) w) w) w) w) w

theorem Q_book_Same_int (a0 a1 : Value) (K : KV) : S_book_Same_int a0 a1 K = P_book_Same_int a0 a1 K := by
  unfold S_book_Same_int P_book_Same_int
  generalize @binIntW = y_binIntW
  generalize @condP = y_condP
  generalize @drewW = y_drewW
  generalize @idxW = y_idxW
  generalize @lenW = y_lenW
  generalize @load1W = y_load1W
  generalize @loopW1 = y_loopW1
  rfl

/-- view_View_Frees -/
def P_view_View_Frees (a0 : Value) (K : KV) : World → Prop := fun w =>
 nilW a0 (fun x1 w =>
 addW 2 x1 (fun x2 w =>
 load1W x2 (fun x3 w =>
 CP Tryz.prog Fn.levels_Levels_Frees [x3] (fun x4 w =>
 K x4 w) w) w) w) w

theorem Q_view_View_Frees (a0 : Value) (K : KV) : S_view_View_Frees a0 K = P_view_View_Frees a0 K := by
  unfold S_view_View_Frees P_view_View_Frees
  generalize @CP = y_CP
  generalize @addW = y_addW
  generalize @load1W = y_load1W
  generalize @nilW = y_nilW
  rfl

/-- view_View_Depth -/
def P_view_View_Depth (a0 : Value) (K : KV) : World → Prop := fun w =>
 nilW a0 (fun x1 w =>
 addW 2 x1 (fun x2 w =>
 load1W x2 (fun x3 w =>
 CP Tryz.prog Fn.levels_Levels_Depth [x3] (fun x4 w =>
 K x4 w) w) w) w) w

theorem Q_view_View_Depth (a0 : Value) (K : KV) : S_view_View_Depth a0 K = P_view_View_Depth a0 K := by
  unfold S_view_View_Depth P_view_View_Depth
  generalize @CP = y_CP
  generalize @addW = y_addW
  generalize @load1W = y_load1W
  generalize @nilW = y_nilW
  rfl

/-- view_View_Need -/
def P_view_View_Need (a0 : Value) (K : KV) : World → Prop := fun w =>
 nilW a0 (fun x1 w =>
 addW 3 x1 (fun x2 w =>
 load1W x2 (fun x3 w =>
 K x3 w) w) w) w

theorem Q_view_View_Need (a0 : Value) (K : KV) : S_view_View_Need a0 K = P_view_View_Need a0 K := by
  unfold S_view_View_Need P_view_View_Need
  generalize @addW = y_addW
  generalize @load1W = y_load1W
  generalize @nilW = y_nilW
  rfl

/-- view_View_Know -/
def P_view_View_Know (a0 a1 a2 : Value) (K : KV) : World → Prop := fun w =>
 CP Tryz.prog Fn.view_View_is [a0, a1] (fun x1 w =>
 notW x1 (fun x2 w =>
 condP x2 (fun w => K (Value.int .i64 2) w) (fun w => nilW a0 (fun x3 w =>
 addW 0 x3 (fun x4 w =>
 load1W x4 (fun x5 w =>
 idxW 2 x5 a1 (fun x6 w =>
 loadNW 2 x6 (fun x7 w =>
 newW #[(Value.int .u64 0), (Value.bool false)] (fun x8 w =>
 storeW 2 x8 x7 (fun _ w =>
 addW 1 x8 (fun x10 w =>
 load1W x10 (fun x11 w =>
 condP x11 (fun w => addW 0 x8 (fun x12 w =>
 load1W x12 (fun x13 w =>
 binIntW .neq x13 a2 (fun x14 w =>
 condP x14 (fun w => K (Value.int .i64 14) w) (fun w => K (Value.int .i64 0) w) w) w) w) w) (fun w => nilW a0 (fun x15 w =>
 addW 0 x15 (fun x16 w =>
 load1W x16 (fun x17 w =>
 buildW [(Value.int .u64 0), (Value.bool false)] [(0, 1, a2), (1, 1, (Value.bool true))] (fun x18 w =>
 idxW 2 x17 a1 (fun x19 w =>
 storeW 2 x19 x18 (fun _ w =>
 nilW a0 (fun x21 w =>
 addW 1 x21 (fun x22 w =>
 load1W x22 (fun x23 w =>
 buildSliceW [(Value.int .i64 0)] 1 [(0, 1, a1)] (fun x24 w =>
 appendW 1 8 x23 x24 (fun x25 w =>
 nilW a0 (fun x26 w =>
 addW 1 x26 (fun x27 w =>
 storeW 1 x27 x25 (fun _ w =>
 K (Value.int .i64 0) w) w) w) w) w) w) w) w) w) w) w) w) w) w) w) w) w) w) w) w) w) w) w) w) w) w) w) w

theorem Q_view_View_Know (a0 a1 a2 : Value) (K : KV) : S_view_View_Know a0 a1 a2 K = P_view_View_Know a0 a1 a2 K := by
  unfold S_view_View_Know P_view_View_Know
  generalize @CP = y_CP
  generalize @addW = y_addW
  generalize @appendW = y_appendW
  generalize @binIntW = y_binIntW
  generalize @buildSliceW = y_buildSliceW
  generalize @buildW = y_buildW
  generalize @condP = y_condP
  generalize @idxW = y_idxW
  generalize @load1W = y_load1W
  generalize @loadNW = y_loadNW
  generalize @newW = y_newW
  generalize @nilW = y_nilW
  generalize @notW = y_notW
  generalize @storeW = y_storeW
  rfl

/-- view_View_Known -/
def P_view_View_Known (a0 : Value) (K : KV) : World → Prop := fun w =>
 nilW a0 (fun x1 w =>
 addW 1 x1 (fun x2 w =>
 load1W x2 (fun x3 w =>
 lenW x3 (fun x4 w =>
 makeSliceW 16 [(Value.int .i64 0), (Value.int .u64 0)] (Value.int .i64 0) x4 (fun x5 w =>
 nilW a0 (fun x6 w =>
 addW 1 x6 (fun x7 w =>
 load1W x7 (fun x8 w =>
 lenW x8 (fun x9 w =>
 loopW2 x5 (Value.int .i64 0) (fun J1 x10 x11 w =>
 binIntW .lss x11 x9 (fun x12 w =>
 condP x12 (fun w => idxW 1 x8 x11 (fun x13 w =>
 load1W x13 (fun x14 w =>
 nilW a0 (fun x15 w =>
 addW 0 x15 (fun x16 w =>
 load1W x16 (fun x17 w =>
 idxW 2 x17 x14 (fun x18 w =>
 addW 0 x18 (fun x19 w =>
 load1W x19 (fun x20 w =>
 buildW [(Value.int .i64 0), (Value.int .u64 0)] [(0, 1, x14), (1, 1, x20)] (fun x21 w =>
 buildSliceW [(Value.int .i64 0), (Value.int .u64 0)] 1 [(0, 2, x21)] (fun x22 w =>
 appendW 2 16 x10 x22 (fun x23 w =>
 binIntW .add x11 (Value.int .i64 1) (fun x24 w =>
 J1 x23 x24 w) w) w) w) w) w) w) w) w) w) w) w) w) (fun w => K x10 w) w) w) w) w) w) w) w) w) w) w) w) w

theorem Q_view_View_Known (a0 : Value) (K : KV) : S_view_View_Known a0 K = P_view_View_Known a0 K := by
  unfold S_view_View_Known P_view_View_Known
  generalize @addW = y_addW
  generalize @appendW = y_appendW
  generalize @binIntW = y_binIntW
  generalize @buildSliceW = y_buildSliceW
  generalize @buildW = y_buildW
  generalize @condP = y_condP
  generalize @idxW = y_idxW
  generalize @lenW = y_lenW
  generalize @load1W = y_load1W
  generalize @loopW2 = y_loopW2
  generalize @makeSliceW = y_makeSliceW
  generalize @nilW = y_nilW
  rfl

/-- arena_Blocks -/
def P_arena_Blocks (a0 : Value) (K : KV) : World → Prop := fun w =>
 lenW a0 (fun x1 w =>
 binIntW .lss x1 (Value.int .i64 32) (fun x2 w =>
 gW x2 false (fun K w => K x1 w) (fun x3 w =>
 gW x2 false (fun K w => binIntW .gtr x3 (Value.int .i64 256) K w) (fun x4 w =>
 pickW x2 (Value.bool true) x4 (fun x5 w =>
 gW x5 false (fun K w => K a0 w) (fun x6 w =>
 gW x5 false (fun K w => idxW 1 x6 (Value.int .i64 5) K w) (fun x7 w =>
 gW x5 false (fun K w => load1W x7 K w) (fun x8 w =>
 gW x5 false (fun K w => binIntW .lss x8 (Value.int .u64 14) K w) (fun x9 w =>
 pickW x5 (Value.bool true) x9 (fun x10 w =>
 gW x10 false (fun K w => K a0 w) (fun x11 w =>
 gW x10 false (fun K w => idxW 1 x11 (Value.int .i64 5) K w) (fun x12 w =>
 gW x10 false (fun K w => load1W x12 K w) (fun x13 w =>
 gW x10 false (fun K w => K x1 w) (fun x14 w =>
 gW x10 false (fun K w => convW .u64 x14 K w) (fun x15 w =>
 gW x10 false (fun K w => binIntW .gtr x13 x15 K w) (fun x16 w =>
 pickW x10 (Value.bool true) x16 (fun x17 w =>
 condP x17 (fun w => K (Value.tuple #[(Value.slice none 0 0), (Value.int .i64 12)]) w) (fun w => idxW 1 a0 (Value.int .i64 5) (fun x18 w =>
 load1W x18 (fun x19 w =>
 convW .i64 x19 (fun x20 w =>
 loopW2 (Value.slice none 0 0) (Value.int .i64 14) (fun J1 x21 x22 w =>
 binIntW .lss x22 x20 (fun x23 w =>
 condP x23 (fun w => idxW 1 a0 x22 (fun x24 w =>
 load1W x24 (fun x25 w =>
 CP Tryz.prog Fn.arena_header [x25] (fun x26 w =>
 extractW 0 x26 (fun x27 w =>
 extractW 1 x26 (fun x28 w =>
 binIntW .add x22 (Value.int .i64 1) (fun x29 w =>
 CP Tryz.prog Fn.arena_Size [x27] (fun x30 w =>
 binIntW .add x29 x30 (fun x31 w =>
 binIntW .eql x27 (Value.int .i64 0) (fun x32 w =>
 gW x32 false (fun K w => K x31 w) (fun x33 w =>
 gW x32 false (fun K w => K x20 w) (fun x34 w =>
 gW x32 false (fun K w => binIntW .gtr x33 x34 K w) (fun x35 w =>
 pickW x32 (Value.bool true) x35 (fun x36 w =>
 condP x36 (fun w => K (Value.tuple #[(Value.slice none 0 0), (Value.int .i64 12)]) w) (fun w => binIntW .add x22 (Value.int .i64 1) (fun x37 w =>
 buildW [(Value.int .i64 0), (Value.int .i64 0), (Value.bool false)] [(0, 1, x37), (1, 1, x27), (2, 1, x28)] (fun x38 w =>
 buildSliceW [(Value.int .i64 0), (Value.int .i64 0), (Value.bool false)] 1 [(0, 3, x38)] (fun x39 w =>
 appendW 3 24 x21 x39 (fun x40 w =>
 J1 x40 x31 w) w) w) w) w) w) w) w) w) w) w) w) w) w) w) w) w) w) w) (fun w => K (Value.tuple #[x21, (Value.int .i64 0)]) w) w) w) w) w) w) w) w) w) w) w) w) w) w) w) w) w) w) w) w) w) w) w) w) w

theorem Q_arena_Blocks (a0 : Value) (K : KV) : S_arena_Blocks a0 K = P_arena_Blocks a0 K := by
  unfold S_arena_Blocks P_arena_Blocks
  generalize @CP = y_CP
  generalize @appendW = y_appendW
  generalize @binIntW = y_binIntW
  generalize @buildSliceW = y_buildSliceW
  generalize @buildW = y_buildW
  generalize @condP = y_condP
  generalize @convW = y_convW
  generalize @extractW = y_extractW
  generalize @gW = y_gW
  generalize @idxW = y_idxW
  generalize @lenW = y_lenW
  generalize @load1W = y_load1W
  generalize @loopW2 = y_loopW2
  generalize @pickW = y_pickW
  rfl

/-- arena_Size -/
def P_arena_Size (a0 : Value) (K : KV) : World → Prop := fun w =>
 binIntW .lss a0 (Value.int .i64 1) (fun x1 w =>
 gW x1 false (fun K w => K a0 w) (fun x2 w =>
 gW x1 false (fun K w => binIntW .gtr x2 (Value.int .i64 4) K w) (fun x3 w =>
 pickW x1 (Value.bool true) x3 (fun x4 w =>
 condP x4 (fun w => K (Value.int .i64 0) w) (fun w => binIntW .shl (Value.int .i64 1) a0 (fun x5 w =>
 K x5 w) w) w) w) w) w) w

theorem Q_arena_Size (a0 : Value) (K : KV) : S_arena_Size a0 K = P_arena_Size a0 K := by
  unfold S_arena_Size P_arena_Size
  generalize @binIntW = y_binIntW
  generalize @condP = y_condP
  generalize @gW = y_gW
  generalize @pickW = y_pickW
  rfl

/-- arena_Lists -/
def P_arena_Lists (a0 : Value) (K : KV) : World → Prop := fun w =>
 CP Tryz.prog Fn.arena_Blocks [a0] (fun x1 w =>
 extractW 0 x1 (fun x2 w =>
 extractW 1 x1 (fun x3 w =>
 binIntW .neq x3 (Value.int .i64 0) (fun x4 w =>
 condP x4 (fun w => K (Value.tuple #[(Value.slice none 0 0), x3]) w) (fun w => makeSliceW 24 [(Value.slice none 0 0)] (Value.int .i64 4) (Value.int .i64 4) (fun x5 w =>
 newW #[(Value.int .i64 0)] (fun x6 w =>
 storeW 1 x6 (Value.int .i64 1) (fun _ w =>
 loopW1 x6 (fun J1 x8 w =>
 load1W x8 (fun x9 w =>
 binIntW .leq x9 (Value.int .i64 4) (fun x10 w =>
 condP x10 (fun w => load1W x8 (fun x11 w =>
 CP Tryz.prog Fn.arena_head [x11] (fun x12 w =>
 idxW 1 a0 x12 (fun x13 w =>
 load1W x13 (fun x14 w =>
 newW #[(Value.int .u64 0)] (fun x15 w =>
 storeW 1 x15 x14 (fun _ w =>
 loopW1 x15 (fun J2 x17 w =>
 load1W x17 (fun x18 w =>
 binIntW .neq x18 (Value.int .u64 0) (fun x19 w =>
 condP x19 (fun w => CP Tryz.prog Fn.slices_IndexFunc_api_Block_api_Block [x2, (Value.func (.func Fn.arena_Lists_1) #[] #[x17, x8])] (fun x20 w =>
 drewW (fun w => binIntW .lss x20 (Value.int .i64 0) (fun x21 w =>
 gW x21 false (fun K w => K x5 w) (fun x22 w =>
 gW x21 false (fun K w => load1W x8 K w) (fun x23 w =>
 gW x21 false (fun K w => binIntW .sub x23 (Value.int .i64 1) K w) (fun x24 w =>
 gW x21 false (fun K w => idxW 1 x22 x24 K w) (fun x25 w =>
 gW x21 false (fun K w => load1W x25 K w) (fun x26 w =>
 gW x21 false (fun K w => K x2 w) (fun x27 w =>
 gW x21 false (fun K w => K x20 w) (fun x28 w =>
 gW x21 false (fun K w => idxW 3 x27 x28 K w) (fun x29 w =>
 gW x21 false (fun K w => addW 0 x29 K w) (fun x30 w =>
 gW x21 false (fun K w => load1W x30 K w) (fun x31 w =>
 gW x21 false (fun K w => CP Tryz.prog Fn.slices_Contains_int_int [x26, x31] K w) (fun x32 w =>
 andP (fun w => andP (fun w => trueP w) (fun w => andP (fun w => trueP w) (fun w => andP (fun w => trueP w) (fun w => trueP w) w) w) w) (fun w =>
 pickW x21 (Value.bool true) x32 (fun x33 w =>
 condP x33 (fun w => K (Value.tuple #[(Value.slice none 0 0), (Value.int .i64 12)]) w) (fun w => drewW (fun w => load1W x8 (fun x34 w =>
 binIntW .sub x34 (Value.int .i64 1) (fun x35 w =>
 load1W x8 (fun x36 w =>
 binIntW .sub x36 (Value.int .i64 1) (fun x37 w =>
 idxW 1 x5 x37 (fun x38 w =>
 load1W x38 (fun x39 w =>
 idxW 3 x2 x20 (fun x40 w =>
 addW 0 x40 (fun x41 w =>
 load1W x41 (fun x42 w =>
 buildSliceW [(Value.int .i64 0)] 1 [(0, 1, x42)] (fun x43 w =>
 andP (fun w => andP (fun w => trueP w) (fun w => andP (fun w => load1W x38 (fun v w => eqP v x39 w) w) (fun w => andP (fun w => load1W x8 (fun v w => eqP v x36 w) w) (fun w => andP (fun w => load1W x8 (fun v w => eqP v x34 w) w) (fun w => trueP w) w) w) w) w) (fun w =>
 appendW 1 8 x39 x43 (fun x44 w =>
 andP (fun w => andP (fun w => trueP w) (fun w => andP (fun w => trueP w) (fun w => andP (fun w => load1W x8 (fun v w => eqP v x34 w) w) (fun w => trueP w) w) w) w) (fun w =>
 idxW 1 x5 x35 (fun x45 w =>
 storeW 1 x45 x44 (fun _ w =>
 andP (fun w => andP (fun w => trueP w) (fun w => trueP w) w) (fun w =>
 idxW 3 x2 x20 (fun x47 w =>
 addW 0 x47 (fun x48 w =>
 load1W x48 (fun x49 w =>
 idxW 1 a0 x49 (fun x50 w =>
 load1W x50 (fun x51 w =>
 storeW 1 x17 x51 (fun _ w =>
 load1W x17 (fun x53 w =>
 newW #[(Value.int .u64 0)] (fun x54 w =>
 storeW 1 x54 x53 (fun _ w =>
 J2 x54 w) w) w) w) w) w) w) w) w) w) w) w) w) w) w) w) w) w) w) w) w) w) w) w) w) w) w) w) w) w) w) w) w) w) w) w) w) w) w) w) w) w) w) w) (fun w => load1W x8 (fun x56 w =>
 newW #[(Value.int .i64 0)] (fun x57 w =>
 storeW 1 x57 x56 (fun _ w =>
 load1W x57 (fun x59 w =>
 binIntW .add x59 (Value.int .i64 1) (fun x60 w =>
 storeW 1 x57 x60 (fun _ w =>
 J1 x57 w) w) w) w) w) w) w) w) w) w) w) w) w) w) w) w) w) (fun w => K (Value.tuple #[x5, (Value.int .i64 0)]) w) w) w) w) w) w) w) w) w) w) w) w) w

theorem Q_arena_Lists (a0 : Value) (K : KV) : S_arena_Lists a0 K = P_arena_Lists a0 K := by
  unfold S_arena_Lists P_arena_Lists
  generalize @CP = y_CP
  generalize @addW = y_addW
  generalize @andP = y_andP
  generalize @appendW = y_appendW
  generalize @binIntW = y_binIntW
  generalize @buildSliceW = y_buildSliceW
  generalize @condP = y_condP
  generalize @drewW = y_drewW
  generalize @eqP = y_eqP
  generalize @extractW = y_extractW
  generalize @gW = y_gW
  generalize @idxW = y_idxW
  generalize @load1W = y_load1W
  generalize @loopW1 = y_loopW1
  generalize @makeSliceW = y_makeSliceW
  generalize @newW = y_newW
  generalize @pickW = y_pickW
  generalize @storeW = y_storeW
  rfl

/-- law18_live -/
def P_law18_live (a0 : Value) (K : KV) : World → Prop := fun w =>
 CP Tryz.prog Fn.arena_Blocks [a0] (fun x1 w =>
 extractW 0 x1 (fun x2 w =>
 extractW 1 x1 (fun x3 w =>
 loopW2 (Value.int .i64 0) (Value.int .i64 0) (fun J1 x4 x5 w =>
 lenW x2 (fun x6 w =>
 binIntW .lss x5 x6 (fun x7 w =>
 condP x7 (fun w => idxW 3 x2 x5 (fun x8 w =>
 addW 2 x8 (fun x9 w =>
 load1W x9 (fun x10 w =>
 joinW1 (fun x11 w =>
 binIntW .add x5 (Value.int .i64 1) (fun x12 w =>
 J1 x11 x12 w) w) (fun j1 w =>
 condP x10 (fun w => binIntW .add x4 (Value.int .i64 1) (fun x13 w =>
 j1 x13 w) w) (fun w => j1 x4 w) w) w) w) w) w) (fun w => K x4 w) w) w) w) w) w) w) w

theorem Q_law18_live (a0 : Value) (K : KV) : S_law18_live a0 K = P_law18_live a0 K := by
  unfold S_law18_live P_law18_live
  generalize @CP = y_CP
  generalize @addW = y_addW
  generalize @binIntW = y_binIntW
  generalize @condP = y_condP
  generalize @extractW = y_extractW
  generalize @idxW = y_idxW
  generalize @joinW1 = y_joinW1
  generalize @lenW = y_lenW
  generalize @load1W = y_load1W
  generalize @loopW2 = y_loopW2
  rfl

/-- book_Within -/
def P_book_Within (a0 a1 a2 : Value) (K : KV) : World → Prop := fun w =>
 binIntW .sub a2 a1 (fun x1 w =>
 binIntW .add x1 (Value.int .i64 1) (fun x2 w =>
 binIntW .rem a0 x2 (fun x3 w =>
 binIntW .lss x3 (Value.int .i64 0) (fun x4 w =>
 joinW1 (fun x5 w =>
 binIntW .add a1 x5 (fun x6 w =>
 K x6 w) w) (fun j1 w =>
 condP x4 (fun w => binIntW .add x3 a2 (fun x7 w =>
 binIntW .sub x7 a1 (fun x8 w =>
 binIntW .add x8 (Value.int .i64 1) (fun x9 w =>
 j1 x9 w) w) w) w) (fun w => j1 x3 w) w) w) w) w) w) w

theorem Q_book_Within (a0 a1 a2 : Value) (K : KV) : S_book_Within a0 a1 a2 K = P_book_Within a0 a1 a2 K := by
  unfold S_book_Within P_book_Within
  generalize @binIntW = y_binIntW
  generalize @condP = y_condP
  generalize @joinW1 = y_joinW1
  rfl

/-- slices_Clone_api_Cell_api_Cell -/
def P_slices_Clone_api_Cell_api_Cell (a0 : Value) (K : KV) : World → Prop := fun w =>
 eqNilSliceW .eql a0 (Value.slice none 0 0) (fun x1 w =>
 condP x1 (fun w => K (Value.slice none 0 0) w) (fun w => buildSliceW [(Value.int .i64 0), (Value.int .u64 0)] 0 [] (fun x2 w =>
 appendW 2 16 x2 a0 (fun x3 w =>
 K x3 w) w) w) w) w

theorem Q_slices_Clone_api_Cell_api_Cell (a0 : Value) (K : KV) : S_slices_Clone_api_Cell_api_Cell a0 K = P_slices_Clone_api_Cell_api_Cell a0 K := by
  unfold S_slices_Clone_api_Cell_api_Cell P_slices_Clone_api_Cell_api_Cell
  generalize @appendW = y_appendW
  generalize @buildSliceW = y_buildSliceW
  generalize @condP = y_condP
  generalize @eqNilSliceW = y_eqNilSliceW
  rfl

/-- table_Put -/
def P_table_Put (a0 a1 a2 a3 : Value) (K : KV) : World → Prop := fun w =>
 boxW a1 (fun x1 w =>
 boxW a2 (fun x2 w =>
 boxW a3 (fun x3 w =>
 newW #[(Value.bool false)] (fun x4 w =>
 storeW 1 x4 (Value.bool false) (fun _ w =>
 load1W x1 (fun x6 w =>
 CP Tryz.prog Fn.draft_Do [a0, x6, (Value.func (.func Fn.table_Put_1) #[] #[x1, x2, x3, x4])] (fun x7 w =>
 load1W x4 (fun x8 w =>
 gW x8 true (fun K w => K x7 w) (fun x9 w =>
 gW x8 true (fun K w => binIntW .eql x9 (Value.int .i64 0) K w) (fun x10 w =>
 pickW x8 x10 (Value.bool false) (fun x11 w =>
 K (Value.tuple #[x11, x7]) w) w) w) w) w) w) w) w) w) w) w) w

theorem Q_table_Put (a0 a1 a2 a3 : Value) (K : KV) : S_table_Put a0 a1 a2 a3 K = P_table_Put a0 a1 a2 a3 K := by
  unfold S_table_Put P_table_Put
  generalize @CP = y_CP
  generalize @binIntW = y_binIntW
  generalize @boxW = y_boxW
  generalize @gW = y_gW
  generalize @load1W = y_load1W
  generalize @newW = y_newW
  generalize @pickW = y_pickW
  generalize @storeW = y_storeW
  rfl

/-- table_Get -/
def P_table_Get (a0 a1 a2 : Value) (K : KV) : World → Prop := fun w =>
 boxW a1 (fun x1 w =>
 boxW a2 (fun x2 w =>
 newW #[(Value.int .u64 0)] (fun x3 w =>
 newW #[(Value.bool false)] (fun x4 w =>
 storeW 1 x3 (Value.int .u64 0) (fun _ w =>
 storeW 1 x4 (Value.bool false) (fun _ w =>
 load1W x1 (fun x7 w =>
 CP Tryz.prog Fn.draft_Do [a0, x7, (Value.func (.func Fn.table_Get_1) #[] #[x1, x2, x3, x4])] (fun x8 w =>
 binIntW .neq x8 (Value.int .i64 0) (fun x9 w =>
 condP x9 (fun w => K (Value.tuple #[(Value.int .u64 0), (Value.bool false), x8]) w) (fun w => drewW (fun w => load1W x3 (fun x10 w =>
 load1W x4 (fun x11 w =>
 K (Value.tuple #[x10, x11, (Value.int .i64 0)]) w) w) w) w) w) w) w) w) w) w) w) w) w) w

theorem Q_table_Get (a0 a1 a2 : Value) (K : KV) : S_table_Get a0 a1 a2 K = P_table_Get a0 a1 a2 K := by
  unfold S_table_Get P_table_Get
  generalize @CP = y_CP
  generalize @binIntW = y_binIntW
  generalize @boxW = y_boxW
  generalize @condP = y_condP
  generalize @drewW = y_drewW
  generalize @load1W = y_load1W
  generalize @newW = y_newW
  generalize @storeW = y_storeW
  rfl

/-- table_All -/
def P_table_All (a0 a1 : Value) (K : KV) : World → Prop := fun w =>
 boxW a1 (fun x1 w =>
 newW #[(Value.slice none 0 0)] (fun x2 w =>
 load1W x1 (fun x3 w =>
 CP Tryz.prog Fn.draft_Do [a0, x3, (Value.func (.func Fn.table_All_1) #[] #[x1, x2])] (fun x4 w =>
 binIntW .neq x4 (Value.int .i64 0) (fun x5 w =>
 condP x5 (fun w => K (Value.tuple #[(Value.slice none 0 0), x4]) w) (fun w => load1W x2 (fun x6 w =>
 CP Tryz.prog Fn.slices_SortFunc_api_Pair_api_Pair [x6, (Value.func (.func Fn.table_All_2) #[] #[])] (fun x7 w =>
 load1W x2 (fun x8 w =>
 K (Value.tuple #[x8, (Value.int .i64 0)]) w) w) w) w) w) w) w) w) w) w

theorem Q_table_All (a0 a1 : Value) (K : KV) : S_table_All a0 a1 K = P_table_All a0 a1 K := by
  unfold S_table_All P_table_All
  generalize @CP = y_CP
  generalize @binIntW = y_binIntW
  generalize @boxW = y_boxW
  generalize @condP = y_condP
  generalize @load1W = y_load1W
  generalize @newW = y_newW
  rfl

/-- keep_Objects_Do -/
def P_keep_Objects_Do (a0 a1 : Value) (K : KV) : World → Prop := fun w =>
 boxW a1 (fun x1 w =>
 newW #[(Value.int .i64 0), (Value.int .u64 0)] (fun x2 w =>
 drewW (fun w => loadNW 4 x1 (fun x3 w =>
 loadNW 4 x1 (fun x4 w =>
 loadNW 4 x1 (fun x5 w =>
 CP Tryz.prog Fn.keep_Call_Place [x3] (fun x6 w =>
 andP (fun w => andP (fun w => loadNW 4 x1 (fun v w => eqP v x5 w) w) (fun w => andP (fun w => loadNW 4 x1 (fun v w => eqP v x4 w) w) (fun w => andP (fun w => trueP w) (fun w => trueP w) w) w) w) (fun w =>
 CP Tryz.prog Fn.keep_Call_Key [x4] (fun x7 w =>
 andP (fun w => andP (fun w => loadNW 4 x1 (fun v w => eqP v x5 w) w) (fun w => andP (fun w => trueP w) (fun w => trueP w) w) w) (fun w =>
 CP Tryz.prog Fn.keep_Call_Val [x5] (fun x8 w =>
 andP (fun w => andP (fun w => trueP w) (fun w => trueP w) w) (fun w =>
 loadNW 4 x1 (fun x9 w =>
 CP Tryz.prog Fn.keep_Call_Which [x9] (fun x10 w =>
 binIntW .eql x10 (Value.int .i64 1) (fun x11 w =>
 joinW1 (fun x12 w =>
 condP x12 (fun w => buildW [(Value.int .i64 0), (Value.int .u64 0)] [(0, 1, (Value.int .i64 2)), (1, 1, (Value.int .u64 1))] (fun x13 w =>
 storeW 2 x2 x13 (fun _ w =>
 loadNW 2 x2 (fun x15 w =>
 K (Value.tuple #[x15, (Value.bool true)]) w) w) w) w) (fun w => buildW [(Value.int .i64 0), (Value.int .u64 0)] [(0, 1, (Value.int .i64 2))] (fun x16 w =>
 storeW 2 x2 x16 (fun _ w =>
 loadNW 2 x2 (fun x18 w =>
 K (Value.tuple #[x18, (Value.bool true)]) w) w) w) w) w) (fun j1 w =>
 condP x11 (fun w => CP Tryz.prog Fn.keep_Objects_Put [a0, x6, x7, (Value.int .u64 0)] (fun x19 w =>
 j1 x19 w) w) (fun w => binIntW .eql x10 (Value.int .i64 4) (fun x20 w =>
 joinW1 (fun x21 w =>
 joinW1 (fun x22 w =>
 j1 x22 w) (fun j3 w =>
 condP x21 (fun w => CP Tryz.prog Fn.keep_Objects_Put [a0, x6, x7, x8] (fun x23 w =>
 j3 x23 w) w) (fun w => binIntW .eql x10 (Value.int .i64 2) (fun x24 w =>
 joinW1 (fun x25 w =>
 joinW1 (fun x26 w =>
 j3 x26 w) (fun j5 w =>
 condP x25 (fun w => CP Tryz.prog Fn.keep_Objects_Del [a0, x6, x7] (fun x27 w =>
 j5 x27 w) w) (fun w => binIntW .eql x10 (Value.int .i64 3) (fun x28 w =>
 condP x28 (fun w => CP Tryz.prog Fn.keep_Objects_Find [a0, x6, x7] (fun x29 w =>
 extractW 0 x29 (fun x30 w =>
 extractW 1 x29 (fun x31 w =>
 j5 x31 w) w) w) w) (fun w => binIntW .eql x10 (Value.int .i64 5) (fun x32 w =>
 joinW1 (fun x33 w =>
 condP x33 (fun w => CP Tryz.prog Fn.keep_Objects_Find [a0, x6, x7] (fun x34 w =>
 extractW 0 x34 (fun x35 w =>
 extractW 1 x34 (fun x36 w =>
 notW x36 (fun x37 w =>
 condP x37 (fun w => buildW [(Value.int .i64 0), (Value.int .u64 0)] [(0, 1, (Value.int .i64 3))] (fun x38 w =>
 storeW 2 x2 x38 (fun _ w =>
 loadNW 2 x2 (fun x40 w =>
 K (Value.tuple #[x40, (Value.bool true)]) w) w) w) w) (fun w => nilW a0 (fun x41 w =>
 addW 0 x41 (fun x42 w =>
 idxArrW 8 1 x42 x6 (fun x43 w =>
 load1W x43 (fun x44 w =>
 idxW 2 x44 x35 (fun x45 w =>
 addW 1 x45 (fun x46 w =>
 load1W x46 (fun x47 w =>
 buildW [(Value.int .i64 0), (Value.int .u64 0)] [(0, 1, (Value.int .i64 1)), (1, 1, x47)] (fun x48 w =>
 storeW 2 x2 x48 (fun _ w =>
 loadNW 2 x2 (fun x50 w =>
 K (Value.tuple #[x50, (Value.bool true)]) w) w) w) w) w) w) w) w) w) w) w) w) w) w) w) w) (fun w => binIntW .eql x10 (Value.int .i64 7) (fun x51 w =>
 condP x51 (fun w => drewW (fun w => nilW a0 (fun x52 w =>
 addW 0 x52 (fun x53 w =>
 idxArrW 8 1 x53 x6 (fun x54 w =>
 load1W x54 (fun x55 w =>
 buildW [(Value.int .u64 0), (Value.int .u64 0)] [(1, 1, x7)] (fun x56 w =>
 nilW a0 (fun x57 w =>
 addW 0 x57 (fun x58 w =>
 andP (fun w => appendW 2 16 (Value.slice none 0 0) x55 (fun x59 w =>
 andP (fun w => andP (fun w => trueP w) (fun w => trueP w) w) (fun w =>
 buildSliceW [(Value.int .u64 0), (Value.int .u64 0)] 1 [(0, 2, x56)] (fun x60 w =>
 andP (fun w => trueP w) (fun w =>
 appendW 2 16 x59 x60 (fun x61 w =>
 andP (fun w => trueP w) (fun w =>
 idxArrW 8 1 x58 x6 (fun x62 w =>
 storeW 1 x62 x61 (fun _ w =>
 andP (fun w => trueP w) (fun w =>
 buildW [(Value.int .i64 0), (Value.int .u64 0)] [(0, 1, (Value.int .i64 3))] (fun x64 w =>
 storeW 2 x2 x64 (fun _ w =>
 loadNW 2 x2 (fun x66 w =>
 K (Value.tuple #[x66, (Value.bool true)]) w) w) w) w) w) w) w) w) w) w) w) w) w) (fun w => buildSliceW [(Value.int .u64 0), (Value.int .u64 0)] 1 [(0, 2, x56)] (fun x67 w =>
 andP (fun w => andP (fun w => load1W x54 (fun v w => eqP v x55 w) w) (fun w => trueP w) w) (fun w =>
 appendW 2 16 (Value.slice none 0 0) x55 (fun x68 w =>
 andP (fun w => andP (fun w => trueP w) (fun w => trueP w) w) (fun w =>
 appendW 2 16 x68 x67 (fun x69 w =>
 andP (fun w => trueP w) (fun w =>
 idxArrW 8 1 x58 x6 (fun x70 w =>
 storeW 1 x70 x69 (fun _ w =>
 andP (fun w => trueP w) (fun w =>
 buildW [(Value.int .i64 0), (Value.int .u64 0)] [(0, 1, (Value.int .i64 3))] (fun x72 w =>
 storeW 2 x2 x72 (fun _ w =>
 loadNW 2 x2 (fun x74 w =>
 K (Value.tuple #[x74, (Value.bool true)]) w) w) w) w) w) w) w) w) w) w) w) w) w) w) w) w) w) w) w) w) w) w) (fun w => binIntW .eql x10 (Value.int .i64 8) (fun x75 w =>
 condP x75 (fun w => nilW a0 (fun x76 w =>
 addW 0 x76 (fun x77 w =>
 idxArrW 8 1 x77 x6 (fun x78 w =>
 load1W x78 (fun x79 w =>
 lenW x79 (fun x80 w =>
 binIntW .eql x80 (Value.int .i64 0) (fun x81 w =>
 condP x81 (fun w => buildW [(Value.int .i64 0), (Value.int .u64 0)] [] (fun x82 w =>
 storeW 2 x2 x82 (fun _ w =>
 loadNW 2 x2 (fun x84 w =>
 K (Value.tuple #[x84, (Value.bool false)]) w) w) w) w) (fun w => nilW a0 (fun x85 w =>
 addW 0 x85 (fun x86 w =>
 idxArrW 8 1 x86 x6 (fun x87 w =>
 load1W x87 (fun x88 w =>
 idxW 2 x88 (Value.int .i64 0) (fun x89 w =>
 addW 1 x89 (fun x90 w =>
 load1W x90 (fun x91 w =>
 drewW (fun w => nilW a0 (fun x92 w =>
 addW 0 x92 (fun x93 w =>
 idxArrW 8 1 x93 x6 (fun x94 w =>
 load1W x94 (fun x95 w =>
 sliceW 2 x95 (some (Value.int .i64 1)) none (fun x96 w =>
 nilW a0 (fun x97 w =>
 addW 0 x97 (fun x98 w =>
 appendW 2 16 (Value.slice none 0 0) x96 (fun x99 w =>
 andP (fun w => andP (fun w => trueP w) (fun w => trueP w) w) (fun w =>
 idxArrW 8 1 x98 x6 (fun x100 w =>
 storeW 1 x100 x99 (fun _ w =>
 andP (fun w => trueP w) (fun w =>
 buildW [(Value.int .i64 0), (Value.int .u64 0)] [(0, 1, (Value.int .i64 1)), (1, 1, x91)] (fun x102 w =>
 storeW 2 x2 x102 (fun _ w =>
 loadNW 2 x2 (fun x104 w =>
 K (Value.tuple #[x104, (Value.bool true)]) w) w) w) w) w) w) w) w) w) w) w) w) w) w) w) w) w) w) w) w) w) w) w) w) w) w) w) w) w) w) w) (fun w => CP Tryz.prog Fn.keep_Objects_Count [a0, x6, x7, x8] (fun x105 w =>
 convW .u64 x105 (fun x106 w =>
 buildW [(Value.int .i64 0), (Value.int .u64 0)] [(0, 1, (Value.int .i64 1)), (1, 1, x106)] (fun x107 w =>
 storeW 2 x2 x107 (fun _ w =>
 loadNW 2 x2 (fun x109 w =>
 K (Value.tuple #[x109, (Value.bool true)]) w) w) w) w) w) w) w) w) w) w) w) (fun j6 w =>
 condP x32 (fun w => j6 x32 w) (fun w => binIntW .eql x10 (Value.int .i64 10) (fun x110 w =>
 j6 x110 w) w) w) w) w) w) w) w) w) (fun j4 w =>
 condP x24 (fun w => j4 x24 w) (fun w => binIntW .eql x10 (Value.int .i64 6) (fun x111 w =>
 joinW1 (fun x112 w =>
 j4 x112 w) (fun j7 w =>
 condP x111 (fun w => j7 x111 w) (fun w => binIntW .eql x10 (Value.int .i64 11) (fun x113 w =>
 j7 x113 w) w) w) w) w) w) w) w) w) w) (fun j2 w =>
 condP x20 (fun w => j2 x20 w) (fun w => binIntW .eql x10 (Value.int .i64 9) (fun x114 w =>
 j2 x114 w) w) w) w) w) w) w) w) w) w) w) w) w) w) w) w) w) w) w) w) w) w

theorem Q_keep_Objects_Do (a0 a1 : Value) (K : KV) : S_keep_Objects_Do a0 a1 K = P_keep_Objects_Do a0 a1 K := by
  unfold S_keep_Objects_Do P_keep_Objects_Do
  generalize @CP = y_CP
  generalize @addW = y_addW
  generalize @andP = y_andP
  generalize @appendW = y_appendW
  generalize @binIntW = y_binIntW
  generalize @boxW = y_boxW
  generalize @buildSliceW = y_buildSliceW
  generalize @buildW = y_buildW
  generalize @condP = y_condP
  generalize @convW = y_convW
  generalize @drewW = y_drewW
  generalize @eqP = y_eqP
  generalize @extractW = y_extractW
  generalize @idxArrW = y_idxArrW
  generalize @idxW = y_idxW
  generalize @joinW1 = y_joinW1
  generalize @lenW = y_lenW
  generalize @load1W = y_load1W
  generalize @loadNW = y_loadNW
  generalize @newW = y_newW
  generalize @nilW = y_nilW
  generalize @notW = y_notW
  generalize @sliceW = y_sliceW
  generalize @storeW = y_storeW
  rfl

/-- law18_settle -/
def P_law18_settle (a0 a1 : Value) (K : KV) : World → Prop := fun w =>
 CP Tryz.prog Fn.view_View_Cells [a1] (fun x1 w =>
 CP Tryz.prog Fn.ref21_Apply [a0, x1] (fun x2 w =>
 CP Tryz.prog Fn.view_View_Frees [a1] (fun x3 w =>
 loopW2 x2 (Value.int .i64 0) (fun J1 x4 x5 w =>
 lenW x3 (fun x6 w =>
 binIntW .lss x5 x6 (fun x7 w =>
 condP x7 (fun w => CP Tryz.prog Fn.view_Whole [x4, (Value.int .i64 96)] (fun x8 w =>
 eqNilW .eql x8 (Value.pointer none) (fun x9 w =>
 gW x9 false (fun K w => K x8 w) (fun x10 w =>
 gW x9 false (fun K w => K x3 w) (fun x11 w =>
 gW x9 false (fun K w => K x5 w) (fun x12 w =>
 gW x9 false (fun K w => idxW 1 x11 x12 K w) (fun x13 w =>
 gW x9 false (fun K w => load1W x13 K w) (fun x14 w =>
 gW x9 false (fun K w => CP Tryz.prog Fn.arena_Give [x10, x14] K w) (fun x15 w =>
 gW x9 false (fun K w => binIntW .neq x15 (Value.int .i64 0) K w) (fun x16 w =>
 pickW x9 (Value.bool true) x16 (fun x17 w =>
 condP x17 (fun w => K (Value.tuple #[x4, (Value.bool false)]) w) (fun w => CP Tryz.prog Fn.view_View_Cells [x8] (fun x18 w =>
 CP Tryz.prog Fn.ref21_Apply [x4, x18] (fun x19 w =>
 binIntW .add x5 (Value.int .i64 1) (fun x20 w =>
 J1 x19 x20 w) w) w) w) w) w) w) w) w) w) w) w) w) w) w) (fun w => K (Value.tuple #[x4, (Value.bool true)]) w) w) w) w) w) w) w) w

theorem Q_law18_settle (a0 a1 : Value) (K : KV) : S_law18_settle a0 a1 K = P_law18_settle a0 a1 K := by
  unfold S_law18_settle P_law18_settle
  generalize @CP = y_CP
  generalize @binIntW = y_binIntW
  generalize @condP = y_condP
  generalize @eqNilW = y_eqNilW
  generalize @gW = y_gW
  generalize @idxW = y_idxW
  generalize @lenW = y_lenW
  generalize @load1W = y_load1W
  generalize @loopW2 = y_loopW2
  generalize @pickW = y_pickW
  rfl

/-- law18_all -/
def P_law18_all (a0 a1 : Value) (K : KV) : World → Prop := fun w =>
 CP Tryz.prog Fn.table_All [a0, a1] (fun x1 w =>
 extractW 0 x1 (fun x2 w =>
 extractW 1 x1 (fun x3 w =>
 CP Tryz.prog Fn.table_Len [a0, a1] (fun x4 w =>
 extractW 0 x4 (fun x5 w =>
 extractW 1 x4 (fun x6 w =>
 binIntW .neq x6 x3 (fun x7 w =>
 gW x7 false (fun K w => K x5 w) (fun x8 w =>
 gW x7 false (fun K w => K x2 w) (fun x9 w =>
 gW x7 false (fun K w => lenW x9 K w) (fun x10 w =>
 gW x7 false (fun K w => binIntW .neq x8 x10 K w) (fun x11 w =>
 pickW x7 (Value.bool true) x11 (fun x12 w =>
 condP x12 (fun w => K (Value.tuple #[(Value.slice none 0 0), (Value.int .i64 1)]) w) (fun w => K (Value.tuple #[x2, x3]) w) w) w) w) w) w) w) w) w) w) w) w) w) w

theorem Q_law18_all (a0 a1 : Value) (K : KV) : S_law18_all a0 a1 K = P_law18_all a0 a1 K := by
  unfold S_law18_all P_law18_all
  generalize @CP = y_CP
  generalize @binIntW = y_binIntW
  generalize @condP = y_condP
  generalize @extractW = y_extractW
  generalize @gW = y_gW
  generalize @lenW = y_lenW
  generalize @pickW = y_pickW
  rfl

/-- book_Same_api_Pair -/
def P_book_Same_api_Pair (a0 a1 : Value) (K : KV) : World → Prop := fun w =>
 lenW a0 (fun x1 w =>
 lenW a1 (fun x2 w =>
 binIntW .neq x1 x2 (fun x3 w =>
 condP x3 (fun w => K (Value.bool false) w) (fun w => loopW1 (Value.int .i64 0) (fun J1 x4 w =>
 lenW a0 (fun x5 w =>
 binIntW .lss x4 x5 (fun x6 w =>
 condP x6 (fun w => drewW (fun w => idxW 2 a0 x4 (fun x7 w =>
 loadNW 2 x7 (fun x8 w =>
 idxW 2 a1 x4 (fun x9 w =>
 loadNW 2 x9 (fun x10 w =>
 eqAggW [.i .u64, .i .u64] .neq x8 x10 (fun x11 w =>
 condP x11 (fun w => K (Value.bool false) w) (fun w => binIntW .add x4 (Value.int .i64 1) (fun x12 w =>
 J1 x12 w) w) w) w) w) w) w) w) w) (fun w => K (Value.bool true) w) w) w) w) w) w) w) w) w

theorem Q_book_Same_api_Pair (a0 a1 : Value) (K : KV) : S_book_Same_api_Pair a0 a1 K = P_book_Same_api_Pair a0 a1 K := by
  unfold S_book_Same_api_Pair P_book_Same_api_Pair
  generalize @binIntW = y_binIntW
  generalize @condP = y_condP
  generalize @drewW = y_drewW
  generalize @eqAggW = y_eqAggW
  generalize @idxW = y_idxW
  generalize @lenW = y_lenW
  generalize @loadNW = y_loadNW
  generalize @loopW1 = y_loopW1
  rfl

/-- keep_Call_Which -/
def P_keep_Call_Which (a0 : Value) (K : KV) : World → Prop := fun w =>
 boxW a0 (fun x1 w =>
 addW 0 x1 (fun x2 w =>
 load1W x2 (fun x3 w =>
 binIntW .geq x3 (Value.int .i64 1) (fun x4 w =>
 gW x4 true (fun K w => addW 0 x1 K w) (fun x5 w =>
 gW x4 true (fun K w => load1W x5 K w) (fun x6 w =>
 gW x4 true (fun K w => binIntW .leq x6 (Value.int .i64 12) K w) (fun x7 w =>
 pickW x4 x7 (Value.bool false) (fun x8 w =>
 condP x8 (fun w => addW 0 x1 (fun x9 w =>
 load1W x9 (fun x10 w =>
 K x10 w) w) w) (fun w => addW 0 x1 (fun x11 w =>
 load1W x11 (fun x12 w =>
 CP Tryz.prog Fn.book_Within [x12, (Value.int .i64 1), (Value.int .i64 12)] (fun x13 w =>
 K x13 w) w) w) w) w) w) w) w) w) w) w) w) w

theorem Q_keep_Call_Which (a0 : Value) (K : KV) : S_keep_Call_Which a0 K = P_keep_Call_Which a0 K := by
  unfold S_keep_Call_Which P_keep_Call_Which
  generalize @CP = y_CP
  generalize @addW = y_addW
  generalize @binIntW = y_binIntW
  generalize @boxW = y_boxW
  generalize @condP = y_condP
  generalize @gW = y_gW
  generalize @load1W = y_load1W
  generalize @pickW = y_pickW
  rfl

/-- levels_New -/
def P_levels_New (a0 : Value) (K : KV) : World → Prop := fun w =>
 minW a0 [(Value.int .i64 96)] (fun x1 w =>
 maxW (Value.int .i64 0) [x1] (fun x2 w =>
 CP Tryz.prog Fn.levels_fresh [] (fun x3 w =>
 buildSliceW [(Value.pointer none)] 1 [(0, 1, x3)] (fun x4 w =>
 buildW [(Value.int .i64 0), (Value.slice none 0 0)] [(0, 1, x2), (1, 1, x4)] (fun x5 w =>
 boxW x5 (fun x6 w =>
 K x6 w) w) w) w) w) w) w

theorem Q_levels_New (a0 : Value) (K : KV) : S_levels_New a0 K = P_levels_New a0 K := by
  unfold S_levels_New P_levels_New
  generalize @CP = y_CP
  generalize @boxW = y_boxW
  generalize @buildSliceW = y_buildSliceW
  generalize @buildW = y_buildW
  generalize @maxW = y_maxW
  generalize @minW = y_minW
  rfl

/-- view_View_Size -/
def P_view_View_Size (a0 : Value) (K : KV) : World → Prop := fun w =>
 nilW a0 (fun x1 w =>
 addW 0 x1 (fun x2 w =>
 load1W x2 (fun x3 w =>
 lenW x3 (fun x4 w =>
 K x4 w) w) w) w) w

theorem Q_view_View_Size (a0 : Value) (K : KV) : S_view_View_Size a0 K = P_view_View_Size a0 K := by
  unfold S_view_View_Size P_view_View_Size
  generalize @addW = y_addW
  generalize @lenW = y_lenW
  generalize @load1W = y_load1W
  generalize @nilW = y_nilW
  rfl

/-- keep_Call_Key -/
def P_keep_Call_Key (a0 : Value) (K : KV) : World → Prop := fun w =>
 boxW a0 (fun x1 w =>
 addW 2 x1 (fun x2 w =>
 load1W x2 (fun x3 w =>
 binIntW .rem x3 (Value.int .u64 12) (fun x4 w =>
 K x4 w) w) w) w) w

theorem Q_keep_Call_Key (a0 : Value) (K : KV) : S_keep_Call_Key a0 K = P_keep_Call_Key a0 K := by
  unfold S_keep_Call_Key P_keep_Call_Key
  generalize @addW = y_addW
  generalize @binIntW = y_binIntW
  generalize @boxW = y_boxW
  generalize @load1W = y_load1W
  rfl

/-- keep_Call_Val -/
def P_keep_Call_Val (a0 : Value) (K : KV) : World → Prop := fun w =>
 boxW a0 (fun x1 w =>
 addW 3 x1 (fun x2 w =>
 load1W x2 (fun x3 w =>
 binIntW .rem x3 (Value.int .u64 12) (fun x4 w =>
 K x4 w) w) w) w) w

theorem Q_keep_Call_Val (a0 : Value) (K : KV) : S_keep_Call_Val a0 K = P_keep_Call_Val a0 K := by
  unfold S_keep_Call_Val P_keep_Call_Val
  generalize @addW = y_addW
  generalize @binIntW = y_binIntW
  generalize @boxW = y_boxW
  generalize @load1W = y_load1W
  rfl

/-- table_Del -/
def P_table_Del (a0 a1 a2 : Value) (K : KV) : World → Prop := fun w =>
 boxW a1 (fun x1 w =>
 boxW a2 (fun x2 w =>
 newW #[(Value.bool false)] (fun x3 w =>
 storeW 1 x3 (Value.bool false) (fun _ w =>
 load1W x1 (fun x5 w =>
 CP Tryz.prog Fn.draft_Do [a0, x5, (Value.func (.func Fn.table_Del_1) #[] #[x1, x2, x3])] (fun x6 w =>
 load1W x3 (fun x7 w =>
 gW x7 true (fun K w => K x6 w) (fun x8 w =>
 gW x7 true (fun K w => binIntW .eql x8 (Value.int .i64 0) K w) (fun x9 w =>
 pickW x7 x9 (Value.bool false) (fun x10 w =>
 K (Value.tuple #[x10, x6]) w) w) w) w) w) w) w) w) w) w) w

theorem Q_table_Del (a0 a1 a2 : Value) (K : KV) : S_table_Del a0 a1 a2 K = P_table_Del a0 a1 a2 K := by
  unfold S_table_Del P_table_Del
  generalize @CP = y_CP
  generalize @binIntW = y_binIntW
  generalize @boxW = y_boxW
  generalize @gW = y_gW
  generalize @load1W = y_load1W
  generalize @newW = y_newW
  generalize @pickW = y_pickW
  generalize @storeW = y_storeW
  rfl

/-- levels_Levels_Cells -/
def P_levels_Levels_Cells (a0 : Value) (K : KV) : World → Prop := fun w =>
 newW #[(Value.slice none 0 0)] (fun x1 w =>
 nilW a0 (fun x2 w =>
 addW 1 x2 (fun x3 w =>
 load1W x3 (fun x4 w =>
 CP Tryz.prog Fn.slices_Backward_levels_level_levels_level [x4] (fun x5 w =>
 backW Fn.slices_Backward_levels_level_levels_level_1 x5 (fun J R x6 x7 w =>
 CP Tryz.prog Fn.writes_New [(Value.int .i64 96)] (fun x8 w =>
 nilW x7 (fun x9 w =>
 addW 0 x9 (fun x10 w =>
 load1W x10 (fun x11 w =>
 CP Tryz.prog Fn.writes_Writes_All [x11] (fun x12 w =>
 CP Tryz.prog Fn.writes_Writes_Take [x8, x12] (fun x13 w =>
 load1W x1 (fun x14 w =>
 CP Tryz.prog Fn.writes_Writes_Take [x8, x14] (fun x15 w =>
 CP Tryz.prog Fn.writes_Writes_All [x8] (fun x16 w =>
 storeW 1 x1 x16 (fun _ w =>
 J w) w) w) w) w) w) w) w) w) w) w) (fun K w =>
 load1W x1 (fun x18 w =>
 K x18 w) w) (fun K w =>
 K (Value.slice none 0 0) w) K w) w) w) w) w) w

theorem Q_levels_Levels_Cells (a0 : Value) (K : KV) : S_levels_Levels_Cells a0 K = P_levels_Levels_Cells a0 K := by
  unfold S_levels_Levels_Cells P_levels_Levels_Cells
  generalize @CP = y_CP
  generalize @addW = y_addW
  generalize @backW = y_backW
  generalize @load1W = y_load1W
  generalize @newW = y_newW
  generalize @nilW = y_nilW
  generalize @storeW = y_storeW
  rfl

/-- levels_Levels_Frees -/
def P_levels_Levels_Frees (a0 : Value) (K : KV) : World → Prop := fun w =>
 nilW a0 (fun x1 w =>
 addW 1 x1 (fun x2 w =>
 load1W x2 (fun x3 w =>
 lenW x3 (fun x4 w =>
 loopW2 (Value.slice none 0 0) (Value.int .i64 0) (fun J1 x5 x6 w =>
 binIntW .lss x6 x4 (fun x7 w =>
 condP x7 (fun w => idxW 1 x3 x6 (fun x8 w =>
 load1W x8 (fun x9 w =>
 nilW x9 (fun x10 w =>
 addW 1 x10 (fun x11 w =>
 load1W x11 (fun x12 w =>
 appendW 1 8 x5 x12 (fun x13 w =>
 binIntW .add x6 (Value.int .i64 1) (fun x14 w =>
 J1 x13 x14 w) w) w) w) w) w) w) w) (fun w => K x5 w) w) w) w) w) w) w) w

theorem Q_levels_Levels_Frees (a0 : Value) (K : KV) : S_levels_Levels_Frees a0 K = P_levels_Levels_Frees a0 K := by
  unfold S_levels_Levels_Frees P_levels_Levels_Frees
  generalize @addW = y_addW
  generalize @appendW = y_appendW
  generalize @binIntW = y_binIntW
  generalize @condP = y_condP
  generalize @idxW = y_idxW
  generalize @lenW = y_lenW
  generalize @load1W = y_load1W
  generalize @loopW2 = y_loopW2
  generalize @nilW = y_nilW
  rfl

/-- levels_Levels_Depth -/
def P_levels_Levels_Depth (a0 : Value) (K : KV) : World → Prop := fun w =>
 nilW a0 (fun x1 w =>
 addW 1 x1 (fun x2 w =>
 load1W x2 (fun x3 w =>
 lenW x3 (fun x4 w =>
 K x4 w) w) w) w) w

theorem Q_levels_Levels_Depth (a0 : Value) (K : KV) : S_levels_Levels_Depth a0 K = P_levels_Levels_Depth a0 K := by
  unfold S_levels_Levels_Depth P_levels_Levels_Depth
  generalize @addW = y_addW
  generalize @lenW = y_lenW
  generalize @load1W = y_load1W
  generalize @nilW = y_nilW
  rfl

/-- view_View_is -/
def P_view_View_is (a0 a1 : Value) (K : KV) : World → Prop := fun w =>
 binIntW .geq a1 (Value.int .i64 1) (fun x1 w =>
 gW x1 true (fun K w => K a1 w) (fun x2 w =>
 gW x1 true (fun K w => K a0 w) (fun x3 w =>
 gW x1 true (fun K w => nilW x3 K w) (fun x4 w =>
 gW x1 true (fun K w => addW 0 x4 K w) (fun x5 w =>
 gW x1 true (fun K w => load1W x5 K w) (fun x6 w =>
 gW x1 true (fun K w => lenW x6 K w) (fun x7 w =>
 gW x1 true (fun K w => binIntW .lss x2 x7 K w) (fun x8 w =>
 pickW x1 x8 (Value.bool false) (fun x9 w =>
 K x9 w) w) w) w) w) w) w) w) w) w

theorem Q_view_View_is (a0 a1 : Value) (K : KV) : S_view_View_is a0 a1 K = P_view_View_is a0 a1 K := by
  unfold S_view_View_is P_view_View_is
  generalize @addW = y_addW
  generalize @binIntW = y_binIntW
  generalize @gW = y_gW
  generalize @lenW = y_lenW
  generalize @load1W = y_load1W
  generalize @nilW = y_nilW
  generalize @pickW = y_pickW
  rfl

/-- arena_header -/
def P_arena_header (a0 : Value) (K : KV) : World → Prop := fun w =>
 binIntW .geq a0 (Value.int .u64 1) (fun x1 w =>
 gW x1 true (fun K w => K a0 w) (fun x2 w =>
 gW x1 true (fun K w => binIntW .leq x2 (Value.int .u64 4) K w) (fun x3 w =>
 pickW x1 x3 (Value.bool false) (fun x4 w =>
 condP x4 (fun w => convW .i64 a0 (fun x5 w =>
 K (Value.tuple #[x5, (Value.bool false)]) w) w) (fun w => binIntW .geq a0 (Value.int .u64 9) (fun x6 w =>
 gW x6 true (fun K w => K a0 w) (fun x7 w =>
 gW x6 true (fun K w => binIntW .leq x7 (Value.int .u64 12) K w) (fun x8 w =>
 pickW x6 x8 (Value.bool false) (fun x9 w =>
 condP x9 (fun w => binIntW .sub a0 (Value.int .u64 8) (fun x10 w =>
 convW .i64 x10 (fun x11 w =>
 K (Value.tuple #[x11, (Value.bool true)]) w) w) w) (fun w => K (Value.tuple #[(Value.int .i64 0), (Value.bool false)]) w) w) w) w) w) w) w) w) w) w) w

theorem Q_arena_header (a0 : Value) (K : KV) : S_arena_header a0 K = P_arena_header a0 K := by
  unfold S_arena_header P_arena_header
  generalize @binIntW = y_binIntW
  generalize @condP = y_condP
  generalize @convW = y_convW
  generalize @gW = y_gW
  generalize @pickW = y_pickW
  rfl

/-- arena_head -/
def P_arena_head (a0 : Value) (K : KV) : World → Prop := fun w =>
 binIntW .add (Value.int .i64 0) a0 (fun x1 w =>
 K x1 w) w

theorem Q_arena_head (a0 : Value) (K : KV) : S_arena_head a0 K = P_arena_head a0 K := by
  unfold S_arena_head P_arena_head
  generalize @binIntW = y_binIntW
  rfl

/-- slices_IndexFunc_api_Block_api_Block -/
def P_slices_IndexFunc_api_Block_api_Block (a0 a1 : Value) (K : KV) : World → Prop := fun w =>
 lenW a0 (fun x1 w =>
 loopW1 (Value.int .i64 0) (fun J1 x2 w =>
 binIntW .lss x2 x1 (fun x3 w =>
 condP x3 (fun w => idxW 3 a0 x2 (fun x4 w =>
 loadNW 3 x4 (fun x5 w =>
 dynW Tryz.prog a1 [x5] (fun x6 w =>
 condP x6 (fun w => K x2 w) (fun w => binIntW .add x2 (Value.int .i64 1) (fun x7 w =>
 J1 x7 w) w) w) w) w) w) (fun w => K (Value.int .i64 (-1)) w) w) w) w) w

theorem Q_slices_IndexFunc_api_Block_api_Block (a0 a1 : Value) (K : KV) : S_slices_IndexFunc_api_Block_api_Block a0 a1 K = P_slices_IndexFunc_api_Block_api_Block a0 a1 K := by
  unfold S_slices_IndexFunc_api_Block_api_Block P_slices_IndexFunc_api_Block_api_Block
  generalize @binIntW = y_binIntW
  generalize @condP = y_condP
  generalize @dynW = y_dynW
  generalize @idxW = y_idxW
  generalize @lenW = y_lenW
  generalize @loadNW = y_loadNW
  generalize @loopW1 = y_loopW1
  rfl

/-- arena_Lists_1 -/
def P_arena_Lists_1 (a0 a1 a2 : Value) (K : KV) : World → Prop := fun w =>
 boxW a0 (fun x1 w =>
 addW 0 x1 (fun x2 w =>
 load1W x2 (fun x3 w =>
 convW .u64 x3 (fun x4 w =>
 load1W a1 (fun x5 w =>
 binIntW .eql x4 x5 (fun x6 w =>
 gW x6 true (fun K w => addW 1 x1 K w) (fun x7 w =>
 gW x6 true (fun K w => load1W x7 K w) (fun x8 w =>
 gW x6 true (fun K w => load1W a2 K w) (fun x9 w =>
 gW x6 true (fun K w => binIntW .eql x8 x9 K w) (fun x10 w =>
 pickW x6 x10 (Value.bool false) (fun x11 w =>
 gW x11 true (fun K w => addW 2 x1 K w) (fun x12 w =>
 gW x11 true (fun K w => load1W x12 K w) (fun x13 w =>
 gW x11 true (fun K w => notW x13 K w) (fun x14 w =>
 pickW x11 x14 (Value.bool false) (fun x15 w =>
 K x15 w) w) w) w) w) w) w) w) w) w) w) w) w) w) w) w

theorem Q_arena_Lists_1 (a0 a1 a2 : Value) (K : KV) : S_arena_Lists_1 a0 a1 a2 K = P_arena_Lists_1 a0 a1 a2 K := by
  unfold S_arena_Lists_1 P_arena_Lists_1
  generalize @addW = y_addW
  generalize @binIntW = y_binIntW
  generalize @boxW = y_boxW
  generalize @convW = y_convW
  generalize @gW = y_gW
  generalize @load1W = y_load1W
  generalize @notW = y_notW
  generalize @pickW = y_pickW
  rfl

/-- slices_Contains_int_int -/
def P_slices_Contains_int_int (a0 a1 : Value) (K : KV) : World → Prop := fun w =>
 CP Tryz.prog Fn.slices_Index_int_int [a0, a1] (fun x1 w =>
 binIntW .geq x1 (Value.int .i64 0) (fun x2 w =>
 K x2 w) w) w

theorem Q_slices_Contains_int_int (a0 a1 : Value) (K : KV) : S_slices_Contains_int_int a0 a1 K = P_slices_Contains_int_int a0 a1 K := by
  unfold S_slices_Contains_int_int P_slices_Contains_int_int
  generalize @CP = y_CP
  generalize @binIntW = y_binIntW
  rfl

/-- ref1_Held -/
def P_ref1_Held (a0 a1 a2 : Value) (K : KV) : World → Prop := fun w =>
 binIntW .lss a0 a1 (fun x1 w =>
 condP x1 (fun w => K a1 w) (fun w => binIntW .gtr a0 a2 (fun x2 w =>
 condP x2 (fun w => K a2 w) (fun w => K a0 w) w) w) w) w

theorem Q_ref1_Held (a0 a1 a2 : Value) (K : KV) : S_ref1_Held a0 a1 a2 K = P_ref1_Held a0 a1 a2 K := by
  unfold S_ref1_Held P_ref1_Held
  generalize @binIntW = y_binIntW
  generalize @condP = y_condP
  rfl

/-- draft_Do -/
def P_draft_Do (a0 a1 a2 : Value) (K : KV) : World → Prop := fun w =>
 binIntW .lss a1 (Value.int .i64 6) (fun x1 w =>
 gW x1 false (fun K w => K a1 w) (fun x2 w =>
 gW x1 false (fun K w => binIntW .geq x2 (Value.int .i64 14) K w) (fun x3 w =>
 pickW x1 (Value.bool true) x3 (fun x4 w =>
 condP x4 (fun w => K (Value.int .i64 2) w) (fun w => CP Tryz.prog Fn.draft_of [a0] (fun x5 w =>
 buildW [(Value.pointer none), (Value.int .i64 0), (Value.int .i64 0)] [(0, 1, x5)] (fun x6 w =>
 boxW x6 (fun x7 w =>
 dynW Tryz.prog a2 [x7] (fun x8 w =>
 nilW x7 (fun x9 w =>
 addW 1 x9 (fun x10 w =>
 load1W x10 (fun x11 w =>
 binIntW .eql x11 (Value.int .i64 11) (fun x12 w =>
 condP x12 (fun w => nilW x7 (fun x13 w =>
 addW 0 x13 (fun x14 w =>
 load1W x14 (fun x15 w =>
 CP Tryz.prog Fn.view_View_Need [x15] (fun x16 w =>
 CP Tryz.prog Fn.view_View_Read [a0, x16] (fun x17 w =>
 extractW 0 x17 (fun x18 w =>
 extractW 1 x17 (fun x19 w =>
 K x19 w) w) w) w) w) w) w) w) (fun w => nilW x7 (fun x20 w =>
 addW 1 x20 (fun x21 w =>
 load1W x21 (fun x22 w =>
 binIntW .neq x22 (Value.int .i64 0) (fun x23 w =>
 condP x23 (fun w => nilW x7 (fun x24 w =>
 addW 1 x24 (fun x25 w =>
 load1W x25 (fun x26 w =>
 K x26 w) w) w) w) (fun w => nilW x7 (fun x27 w =>
 addW 0 x27 (fun x28 w =>
 load1W x28 (fun x29 w =>
 CP Tryz.prog Fn.view_View_Cells [x29] (fun x30 w =>
 CP Tryz.prog Fn.view_View_Take [a0, x30] (fun x31 w =>
 binIntW .neq x31 (Value.int .i64 0) (fun x32 w =>
 condP x32 (fun w => K x31 w) (fun w => nilW x7 (fun x33 w =>
 addW 0 x33 (fun x34 w =>
 load1W x34 (fun x35 w =>
 CP Tryz.prog Fn.view_View_Frees [x35] (fun x36 w =>
 lenW x36 (fun x37 w =>
 loopW1 (Value.int .i64 0) (fun J1 x38 w =>
 binIntW .lss x38 x37 (fun x39 w =>
 condP x39 (fun w => idxW 1 x36 x38 (fun x40 w =>
 load1W x40 (fun x41 w =>
 CP Tryz.prog Fn.view_View_Free [a0, x41] (fun x42 w =>
 binIntW .add x38 (Value.int .i64 1) (fun x43 w =>
 J1 x43 w) w) w) w) w) (fun w => K (Value.int .i64 0) w) w) w) w) w) w) w) w) w) w) w) w) w) w) w) w) w) w) w) w) w) w) w) w) w) w) w) w) w) w) w) w) w) w) w

theorem Q_draft_Do (a0 a1 a2 : Value) (K : KV) : S_draft_Do a0 a1 a2 K = P_draft_Do a0 a1 a2 K := by
  unfold S_draft_Do P_draft_Do
  generalize @CP = y_CP
  generalize @addW = y_addW
  generalize @binIntW = y_binIntW
  generalize @boxW = y_boxW
  generalize @buildW = y_buildW
  generalize @condP = y_condP
  generalize @dynW = y_dynW
  generalize @extractW = y_extractW
  generalize @gW = y_gW
  generalize @idxW = y_idxW
  generalize @lenW = y_lenW
  generalize @load1W = y_load1W
  generalize @loopW1 = y_loopW1
  generalize @nilW = y_nilW
  generalize @pickW = y_pickW
  rfl

/-- table_Put_1 -/
def P_table_Put_1 (a0 a1 a2 a3 a4 : Value) (K : KV) : World → Prop := fun w =>
 load1W a1 (fun x1 w =>
 CP Tryz.prog Fn.table_open [a0, x1] (fun x2 w =>
 CP Tryz.prog Fn.draft_Draft_OK [a0] (fun x3 w =>
 gW x3 true (fun K w => K x2 w) (fun x4 w =>
 gW x3 true (fun K w => nilW x4 K w) (fun x5 w =>
 gW x3 true (fun K w => addW 1 x5 K w) (fun x6 w =>
 gW x3 true (fun K w => load1W x6 K w) (fun x7 w =>
 gW x3 true (fun K w => binIntW .eql x7 (Value.int .i64 0) K w) (fun x8 w =>
 pickW x3 x8 (Value.bool false) (fun x9 w =>
 joinW1 (fun x10 w =>
 CP Tryz.prog Fn.draft_Draft_OK [a0] (fun x11 w =>
 notW x11 (fun x12 w =>
 condP x12 (fun w => K (Value.tuple #[]) w) (fun w => load1W a2 (fun x13 w =>
 CP Tryz.prog Fn.table_table_seek [x10, x13] (fun x14 w =>
 extractW 0 x14 (fun x15 w =>
 extractW 1 x14 (fun x16 w =>
 binIntW .neq x16 (Value.int .i64 0) (fun x17 w =>
 condP x17 (fun w => binIntW .add x16 (Value.int .i64 1) (fun x18 w =>
 load1W a3 (fun x19 w =>
 CP Tryz.prog Fn.draft_Draft_Write [a0, x18, x19] (fun x20 w =>
 K (Value.tuple #[]) w) w) w) w) (fun w => drewW (fun w => CP Tryz.prog Fn.draft_Draft_OK [a0] (fun x21 w =>
 andP (fun w => trueP w) (fun w =>
 gW x21 true (fun K w => K x10 w) (fun x22 w =>
 gW x21 true (fun K w => nilW x22 K w) (fun x23 w =>
 gW x21 true (fun K w => addW 4 x23 K w) (fun x24 w =>
 gW x21 true (fun K w => load1W x24 K w) (fun x25 w =>
 gW x21 true (fun K w => K x10 w) (fun x26 w =>
 gW x21 true (fun K w => nilW x26 K w) (fun x27 w =>
 gW x21 true (fun K w => addW 2 x27 K w) (fun x28 w =>
 gW x21 true (fun K w => load1W x28 K w) (fun x29 w =>
 gW x21 true (fun K w => convW .u64 x29 K w) (fun x30 w =>
 gW x21 true (fun K w => binIntW .geq x25 x30 K w) (fun x31 w =>
 pickW x21 x31 (Value.bool false) (fun x32 w =>
 gW x32 true (fun K w => K x10 w) (fun x33 w =>
 gW x32 true (fun K w => nilW x33 K w) (fun x34 w =>
 gW x32 true (fun K w => addW 2 x34 K w) (fun x35 w =>
 gW x32 true (fun K w => load1W x35 K w) (fun x36 w =>
 gW x32 true (fun K w => binIntW .lss x36 (Value.int .i64 16) K w) (fun x37 w =>
 pickW x32 x37 (Value.bool false) (fun x38 w =>
 joinW1 (fun x39 w =>
 CP Tryz.prog Fn.draft_Draft_Alloc [a0, (Value.int .i64 3)] (fun x40 w =>
 binIntW .add x40 (Value.int .i64 0) (fun x41 w =>
 load1W a2 (fun x42 w =>
 CP Tryz.prog Fn.draft_Draft_Write [a0, x41, x42] (fun x43 w =>
 binIntW .add x40 (Value.int .i64 1) (fun x44 w =>
 load1W a3 (fun x45 w =>
 CP Tryz.prog Fn.draft_Draft_Write [a0, x44, x45] (fun x46 w =>
 binIntW .add x40 (Value.int .i64 2) (fun x47 w =>
 CP Tryz.prog Fn.draft_Draft_Point [a0, x47, (Value.int .i64 0)] (fun x48 w =>
 CP Tryz.prog Fn.draft_Draft_Point [a0, x39, x40] (fun x49 w =>
 drewW (fun w => nilW x10 (fun x50 w =>
 addW 1 x50 (fun x51 w =>
 load1W x51 (fun x52 w =>
 binIntW .add x52 (Value.int .i64 0) (fun x53 w =>
 nilW x10 (fun x54 w =>
 addW 4 x54 (fun x55 w =>
 load1W x55 (fun x56 w =>
 binIntW .add x56 (Value.int .u64 1) (fun x57 w =>
 CP Tryz.prog Fn.draft_Draft_Write [a0, x53, x57] (fun x58 w =>
 andP (fun w => andP (fun w => trueP w) (fun w => andP (fun w => trueP w) (fun w => trueP w) w) w) (fun w =>
 storeW 1 a4 (Value.bool true) (fun _ w =>
 K (Value.tuple #[]) w) w) w) w) w) w) w) w) w) w) w) w) w) w) w) w) w) w) w) w) w) w) w) (fun j2 w =>
 condP x38 (fun w => CP Tryz.prog Fn.table_table_grow [x10] (fun x60 w =>
 load1W a2 (fun x61 w =>
 CP Tryz.prog Fn.table_table_seek [x10, x61] (fun x62 w =>
 extractW 0 x62 (fun x63 w =>
 extractW 1 x62 (fun x64 w =>
 j2 x63 w) w) w) w) w) w) (fun w => j2 x15 w) w) w) w) w) w) w) w) w) w) w) w) w) w) w) w) w) w) w) w) w) w) w) w) w) w) w) w) w) w) w) w) (fun j1 w =>
 condP x9 (fun w => load1W a1 (fun x65 w =>
 CP Tryz.prog Fn.table_made [a0, x65] (fun x66 w =>
 j1 x66 w) w) w) (fun w => j1 x2 w) w) w) w) w) w) w) w) w) w) w) w

theorem Q_table_Put_1 (a0 a1 a2 a3 a4 : Value) (K : KV) : S_table_Put_1 a0 a1 a2 a3 a4 K = P_table_Put_1 a0 a1 a2 a3 a4 K := by
  unfold S_table_Put_1 P_table_Put_1
  generalize @CP = y_CP
  generalize @addW = y_addW
  generalize @andP = y_andP
  generalize @binIntW = y_binIntW
  generalize @condP = y_condP
  generalize @convW = y_convW
  generalize @drewW = y_drewW
  generalize @extractW = y_extractW
  generalize @gW = y_gW
  generalize @joinW1 = y_joinW1
  generalize @load1W = y_load1W
  generalize @nilW = y_nilW
  generalize @notW = y_notW
  generalize @pickW = y_pickW
  generalize @storeW = y_storeW
  rfl

/-- table_open -/
def P_table_open (a0 a1 : Value) (K : KV) : World → Prop := fun w =>
 CP Tryz.prog Fn.draft_Draft_Place [a0, a1] (fun x1 w =>
 buildW [(Value.pointer none), (Value.int .i64 0), (Value.int .i64 0), (Value.int .i64 0), (Value.int .u64 0)] [(0, 1, a0), (1, 1, x1)] (fun x2 w =>
 boxW x2 (fun x3 w =>
 nilW x3 (fun x4 w =>
 addW 1 x4 (fun x5 w =>
 load1W x5 (fun x6 w =>
 binIntW .eql x6 (Value.int .i64 0) (fun x7 w =>
 condP x7 (fun w => K x3 w) (fun w => nilW x3 (fun x8 w =>
 addW 1 x8 (fun x9 w =>
 load1W x9 (fun x10 w =>
 binIntW .add x10 (Value.int .i64 0) (fun x11 w =>
 CP Tryz.prog Fn.draft_Draft_Read [a0, x11] (fun x12 w =>
 nilW x3 (fun x13 w =>
 addW 4 x13 (fun x14 w =>
 storeW 1 x14 x12 (fun _ w =>
 nilW x3 (fun x16 w =>
 addW 1 x16 (fun x17 w =>
 load1W x17 (fun x18 w =>
 binIntW .add x18 (Value.int .i64 1) (fun x19 w =>
 CP Tryz.prog Fn.draft_Draft_Read [a0, x19] (fun x20 w =>
 binIntW .lss x20 (Value.int .u64 2) (fun x21 w =>
 gW x21 false (fun K w => K x20 w) (fun x22 w =>
 gW x21 false (fun K w => binIntW .gtr x22 (Value.int .u64 16) K w) (fun x23 w =>
 pickW x21 (Value.bool true) x23 (fun x24 w =>
 gW x24 false (fun K w => K x20 w) (fun x25 w =>
 gW x24 false (fun K w => K x20 w) (fun x26 w =>
 gW x24 false (fun K w => binIntW .sub x26 (Value.int .u64 1) K w) (fun x27 w =>
 gW x24 false (fun K w => binIntW .and x25 x27 K w) (fun x28 w =>
 gW x24 false (fun K w => binIntW .neq x28 (Value.int .u64 0) K w) (fun x29 w =>
 pickW x24 (Value.bool true) x29 (fun x30 w =>
 joinW1 (fun x31 w =>
 convW .i64 x31 (fun x32 w =>
 nilW x3 (fun x33 w =>
 addW 1 x33 (fun x34 w =>
 load1W x34 (fun x35 w =>
 binIntW .add x35 (Value.int .i64 2) (fun x36 w =>
 CP Tryz.prog Fn.draft_Draft_Place [a0, x36] (fun x37 w =>
 nilW x3 (fun x38 w =>
 addW 2 x38 (fun x39 w =>
 storeW 1 x39 x32 (fun _ w =>
 nilW x3 (fun x41 w =>
 addW 3 x41 (fun x42 w =>
 storeW 1 x42 x37 (fun _ w =>
 K x3 w) w) w) w) w) w) w) w) w) w) w) w) w) (fun j1 w =>
 condP x30 (fun w => CP Tryz.prog Fn.draft_Draft_Fail [a0, (Value.int .i64 2)] (fun x44 w =>
 j1 (Value.int .u64 2) w) w) (fun w => j1 x20 w) w) w) w) w) w) w) w) w) w) w) w) w) w) w) w) w) w) w) w) w) w) w) w) w) w) w) w) w) w) w) w) w) w

theorem Q_table_open (a0 a1 : Value) (K : KV) : S_table_open a0 a1 K = P_table_open a0 a1 K := by
  unfold S_table_open P_table_open
  generalize @CP = y_CP
  generalize @addW = y_addW
  generalize @binIntW = y_binIntW
  generalize @boxW = y_boxW
  generalize @buildW = y_buildW
  generalize @condP = y_condP
  generalize @convW = y_convW
  generalize @gW = y_gW
  generalize @joinW1 = y_joinW1
  generalize @load1W = y_load1W
  generalize @nilW = y_nilW
  generalize @pickW = y_pickW
  generalize @storeW = y_storeW
  rfl

/-- draft_Draft_OK -/
def P_draft_Draft_OK (a0 : Value) (K : KV) : World → Prop := fun w =>
 nilW a0 (fun x1 w =>
 addW 1 x1 (fun x2 w =>
 load1W x2 (fun x3 w =>
 binIntW .eql x3 (Value.int .i64 0) (fun x4 w =>
 K x4 w) w) w) w) w

theorem Q_draft_Draft_OK (a0 : Value) (K : KV) : S_draft_Draft_OK a0 K = P_draft_Draft_OK a0 K := by
  unfold S_draft_Draft_OK P_draft_Draft_OK
  generalize @addW = y_addW
  generalize @binIntW = y_binIntW
  generalize @load1W = y_load1W
  generalize @nilW = y_nilW
  rfl

/-- table_made -/
def P_table_made (a0 a1 : Value) (K : KV) : World → Prop := fun w =>
 CP Tryz.prog Fn.draft_Draft_Alloc [a0, (Value.int .i64 3)] (fun x1 w =>
 CP Tryz.prog Fn.draft_Draft_Alloc [a0, (Value.int .i64 2)] (fun x2 w =>
 buildW [(Value.pointer none), (Value.int .i64 0), (Value.int .i64 0), (Value.int .i64 0), (Value.int .u64 0)] [(0, 1, a0), (1, 1, x1), (2, 1, (Value.int .i64 2)), (3, 1, x2)] (fun x3 w =>
 boxW x3 (fun x4 w =>
 loopW1 (Value.int .i64 0) (fun J1 x5 w =>
 binIntW .lss x5 (Value.int .i64 2) (fun x6 w =>
 condP x6 (fun w => nilW x4 (fun x7 w =>
 addW 3 x7 (fun x8 w =>
 load1W x8 (fun x9 w =>
 binIntW .add x9 x5 (fun x10 w =>
 CP Tryz.prog Fn.draft_Draft_Point [a0, x10, (Value.int .i64 0)] (fun x11 w =>
 binIntW .add x5 (Value.int .i64 1) (fun x12 w =>
 J1 x12 w) w) w) w) w) w) w) (fun w => nilW x4 (fun x13 w =>
 addW 1 x13 (fun x14 w =>
 load1W x14 (fun x15 w =>
 binIntW .add x15 (Value.int .i64 0) (fun x16 w =>
 CP Tryz.prog Fn.draft_Draft_Point [a0, x16, (Value.int .i64 0)] (fun x17 w =>
 nilW x4 (fun x18 w =>
 addW 1 x18 (fun x19 w =>
 load1W x19 (fun x20 w =>
 binIntW .add x20 (Value.int .i64 1) (fun x21 w =>
 CP Tryz.prog Fn.draft_Draft_Point [a0, x21, (Value.int .i64 2)] (fun x22 w =>
 drewW (fun w => nilW x4 (fun x23 w =>
 addW 1 x23 (fun x24 w =>
 load1W x24 (fun x25 w =>
 binIntW .add x25 (Value.int .i64 2) (fun x26 w =>
 nilW x4 (fun x27 w =>
 addW 3 x27 (fun x28 w =>
 load1W x28 (fun x29 w =>
 CP Tryz.prog Fn.draft_Draft_Point [a0, x26, x29] (fun x30 w =>
 andP (fun w => andP (fun w => trueP w) (fun w => andP (fun w => trueP w) (fun w => trueP w) w) w) (fun w =>
 nilW x4 (fun x31 w =>
 addW 1 x31 (fun x32 w =>
 load1W x32 (fun x33 w =>
 CP Tryz.prog Fn.draft_Draft_Point [a0, a1, x33] (fun x34 w =>
 K x4 w) w) w) w) w) w) w) w) w) w) w) w) w) w) w) w) w) w) w) w) w) w) w) w) w) w) w) w) w) w) w) w

theorem Q_table_made (a0 a1 : Value) (K : KV) : S_table_made a0 a1 K = P_table_made a0 a1 K := by
  unfold S_table_made P_table_made
  generalize @CP = y_CP
  generalize @addW = y_addW
  generalize @andP = y_andP
  generalize @binIntW = y_binIntW
  generalize @boxW = y_boxW
  generalize @buildW = y_buildW
  generalize @condP = y_condP
  generalize @drewW = y_drewW
  generalize @load1W = y_load1W
  generalize @loopW1 = y_loopW1
  generalize @nilW = y_nilW
  rfl

/-- table_table_seek -/
def P_table_table_seek (a0 a1 : Value) (K : KV) : World → Prop := fun w =>
 drewW (fun w => nilW a0 (fun x1 w =>
 addW 3 x1 (fun x2 w =>
 load1W x2 (fun x3 w =>
 nilW a0 (fun x4 w =>
 addW 2 x4 (fun x5 w =>
 load1W x5 (fun x6 w =>
 CP Tryz.prog Fn.table_chain [a1, x6] (fun x7 w =>
 andP (fun w => andP (fun w => trueP w) (fun w => andP (fun w => load1W x2 (fun v w => eqP v x3 w) w) (fun w => trueP w) w) w) (fun w =>
 binIntW .add x3 x7 (fun x8 w =>
 loopW1 x8 (fun J1 x9 w =>
 nilW a0 (fun x10 w =>
 addW 0 x10 (fun x11 w =>
 load1W x11 (fun x12 w =>
 CP Tryz.prog Fn.draft_Draft_Step [x12] (fun x13 w =>
 condP x13 (fun w => nilW a0 (fun x14 w =>
 addW 0 x14 (fun x15 w =>
 load1W x15 (fun x16 w =>
 CP Tryz.prog Fn.draft_Draft_Place [x16, x9] (fun x17 w =>
 binIntW .eql x17 (Value.int .i64 0) (fun x18 w =>
 gW x18 false (fun K w => K a0 w) (fun x19 w =>
 gW x18 false (fun K w => nilW x19 K w) (fun x20 w =>
 gW x18 false (fun K w => addW 0 x20 K w) (fun x21 w =>
 gW x18 false (fun K w => load1W x21 K w) (fun x22 w =>
 gW x18 false (fun K w => K x17 w) (fun x23 w =>
 gW x18 false (fun K w => binIntW .add x23 (Value.int .i64 0) K w) (fun x24 w =>
 gW x18 false (fun K w => CP Tryz.prog Fn.draft_Draft_Read [x22, x24] K w) (fun x25 w =>
 gW x18 false (fun K w => K a1 w) (fun x26 w =>
 gW x18 false (fun K w => binIntW .eql x25 x26 K w) (fun x27 w =>
 pickW x18 (Value.bool true) x27 (fun x28 w =>
 condP x28 (fun w => K (Value.tuple #[x9, x17]) w) (fun w => binIntW .add x17 (Value.int .i64 2) (fun x29 w =>
 J1 x29 w) w) w) w) w) w) w) w) w) w) w) w) w) w) w) w) w) w) (fun w => K (Value.tuple #[x9, (Value.int .i64 0)]) w) w) w) w) w) w) w) w) w) w) w) w) w) w) w) w) w

theorem Q_table_table_seek (a0 a1 : Value) (K : KV) : S_table_table_seek a0 a1 K = P_table_table_seek a0 a1 K := by
  unfold S_table_table_seek P_table_table_seek
  generalize @CP = y_CP
  generalize @addW = y_addW
  generalize @andP = y_andP
  generalize @binIntW = y_binIntW
  generalize @condP = y_condP
  generalize @drewW = y_drewW
  generalize @eqP = y_eqP
  generalize @gW = y_gW
  generalize @load1W = y_load1W
  generalize @loopW1 = y_loopW1
  generalize @nilW = y_nilW
  generalize @pickW = y_pickW
  rfl

/-- draft_Draft_Write -/
def P_draft_Draft_Write (a0 a1 a2 : Value) (K : KV) : World → Prop := fun w =>
 CP Tryz.prog Fn.draft_Draft_OK [a0] (fun x1 w =>
 joinW0 (fun  w =>
 K (Value.tuple #[]) w) (fun j1 w =>
 condP x1 (fun w => nilW a0 (fun x2 w =>
 addW 0 x2 (fun x3 w =>
 load1W x3 (fun x4 w =>
 CP Tryz.prog Fn.view_View_Write [x4, a1, a2] (fun x5 w =>
 CP Tryz.prog Fn.draft_Draft_Fail [a0, x5] (fun x6 w =>
 j1  w) w) w) w) w) w) (fun w => j1  w) w) w) w

theorem Q_draft_Draft_Write (a0 a1 a2 : Value) (K : KV) : S_draft_Draft_Write a0 a1 a2 K = P_draft_Draft_Write a0 a1 a2 K := by
  unfold S_draft_Draft_Write P_draft_Draft_Write
  generalize @CP = y_CP
  generalize @addW = y_addW
  generalize @condP = y_condP
  generalize @joinW0 = y_joinW0
  generalize @load1W = y_load1W
  generalize @nilW = y_nilW
  rfl

/-- table_table_grow -/
def P_table_table_grow (a0 : Value) (K : KV) : World → Prop := fun w =>
 boxW a0 (fun x1 w =>
 load1W x1 (fun x2 w =>
 nilW x2 (fun x3 w =>
 addW 2 x3 (fun x4 w =>
 load1W x4 (fun x5 w =>
 binIntW .mul (Value.int .i64 2) x5 (fun x6 w =>
 newW #[(Value.int .i64 0)] (fun x7 w =>
 storeW 1 x7 x6 (fun _ w =>
 load1W x7 (fun x9 w =>
 makeSliceW 8 [(Value.int .i64 0)] x9 x9 (fun x10 w =>
 newW #[(Value.slice none 0 0)] (fun x11 w =>
 storeW 1 x11 x10 (fun _ w =>
 drewW (fun w => load1W x1 (fun x13 w =>
 nilW x13 (fun x14 w =>
 addW 0 x14 (fun x15 w =>
 load1W x15 (fun x16 w =>
 load1W x7 (fun x17 w =>
 CP Tryz.prog Fn.draft_Draft_Alloc [x16, x17] (fun x18 w =>
 andP (fun w => andP (fun w => trueP w) (fun w => andP (fun w => trueP w) (fun w => andP (fun w => trueP w) (fun w => trueP w) w) w) w) (fun w =>
 load1W x1 (fun x19 w =>
 CP Tryz.prog Fn.table_table_each [x19, (Value.func (.func Fn.table_table_grow_1) #[] #[x1, x7, x11])] (fun x20 w =>
 load1W x11 (fun x21 w =>
 lenW x21 (fun x22 w =>
 loopW1 (Value.int .i64 0) (fun J1 x23 w =>
 binIntW .lss x23 x22 (fun x24 w =>
 condP x24 (fun w => idxW 1 x21 x23 (fun x25 w =>
 load1W x25 (fun x26 w =>
 load1W x1 (fun x27 w =>
 nilW x27 (fun x28 w =>
 addW 0 x28 (fun x29 w =>
 load1W x29 (fun x30 w =>
 binIntW .add x18 x23 (fun x31 w =>
 CP Tryz.prog Fn.draft_Draft_Point [x30, x31, x26] (fun x32 w =>
 binIntW .add x23 (Value.int .i64 1) (fun x33 w =>
 J1 x33 w) w) w) w) w) w) w) w) w) w) (fun w => drewW (fun w => load1W x1 (fun x34 w =>
 nilW x34 (fun x35 w =>
 addW 0 x35 (fun x36 w =>
 load1W x36 (fun x37 w =>
 load1W x1 (fun x38 w =>
 nilW x38 (fun x39 w =>
 addW 3 x39 (fun x40 w =>
 load1W x40 (fun x41 w =>
 CP Tryz.prog Fn.draft_Draft_Free [x37, x41] (fun x42 w =>
 andP (fun w => andP (fun w => trueP w) (fun w => andP (fun w => trueP w) (fun w => andP (fun w => trueP w) (fun w => andP (fun w => trueP w) (fun w => trueP w) w) w) w) w) (fun w =>
 drewW (fun w => load1W x1 (fun x43 w =>
 load1W x1 (fun x44 w =>
 load1W x7 (fun x45 w =>
 nilW x43 (fun x46 w =>
 addW 2 x46 (fun x47 w =>
 storeW 1 x47 x45 (fun _ w =>
 andP (fun w => andP (fun w => trueP w) (fun w => andP (fun w => load1W x1 (fun v w => eqP v x44 w) w) (fun w => andP (fun w => trueP w) (fun w => trueP w) w) w) w) (fun w =>
 nilW x44 (fun x49 w =>
 addW 3 x49 (fun x50 w =>
 storeW 1 x50 x18 (fun _ w =>
 andP (fun w => andP (fun w => trueP w) (fun w => trueP w) w) (fun w =>
 drewW (fun w => load1W x1 (fun x52 w =>
 nilW x52 (fun x53 w =>
 addW 0 x53 (fun x54 w =>
 load1W x54 (fun x55 w =>
 load1W x1 (fun x56 w =>
 nilW x56 (fun x57 w =>
 addW 1 x57 (fun x58 w =>
 load1W x58 (fun x59 w =>
 binIntW .add x59 (Value.int .i64 1) (fun x60 w =>
 load1W x7 (fun x61 w =>
 CP Tryz.prog Fn.draft_Draft_Point [x55, x60, x61] (fun x62 w =>
 andP (fun w => andP (fun w => trueP w) (fun w => andP (fun w => trueP w) (fun w => andP (fun w => trueP w) (fun w => andP (fun w => trueP w) (fun w => andP (fun w => trueP w) (fun w => trueP w) w) w) w) w) w) (fun w =>
 drewW (fun w => load1W x1 (fun x63 w =>
 nilW x63 (fun x64 w =>
 addW 0 x64 (fun x65 w =>
 load1W x65 (fun x66 w =>
 load1W x1 (fun x67 w =>
 nilW x67 (fun x68 w =>
 addW 1 x68 (fun x69 w =>
 load1W x69 (fun x70 w =>
 binIntW .add x70 (Value.int .i64 2) (fun x71 w =>
 CP Tryz.prog Fn.draft_Draft_Point [x66, x71, x18] (fun x72 w =>
 andP (fun w => andP (fun w => trueP w) (fun w => andP (fun w => trueP w) (fun w => andP (fun w => trueP w) (fun w => andP (fun w => trueP w) (fun w => trueP w) w) w) w) w) (fun w =>
 K (Value.tuple #[]) w) w) w) w) w) w) w) w) w) w) w) w) w) w) w) w) w) w) w) w) w) w) w) w) w) w) w) w) w) w) w) w) w) w) w) w) w) w) w) w) w) w) w) w) w) w) w) w) w) w) w) w) w) w) w) w) w) w) w) w) w) w) w) w) w) w) w) w) w) w) w) w) w) w) w) w

theorem Q_table_table_grow (a0 : Value) (K : KV) : S_table_table_grow a0 K = P_table_table_grow a0 K := by
  unfold S_table_table_grow P_table_table_grow
  generalize @CP = y_CP
  generalize @addW = y_addW
  generalize @andP = y_andP
  generalize @binIntW = y_binIntW
  generalize @boxW = y_boxW
  generalize @condP = y_condP
  generalize @drewW = y_drewW
  generalize @eqP = y_eqP
  generalize @idxW = y_idxW
  generalize @lenW = y_lenW
  generalize @load1W = y_load1W
  generalize @loopW1 = y_loopW1
  generalize @makeSliceW = y_makeSliceW
  generalize @newW = y_newW
  generalize @nilW = y_nilW
  generalize @storeW = y_storeW
  rfl

/-- draft_Draft_Alloc -/
def P_draft_Draft_Alloc (a0 a1 : Value) (K : KV) : World → Prop := fun w =>
 CP Tryz.prog Fn.draft_Draft_OK [a0] (fun x1 w =>
 notW x1 (fun x2 w =>
 condP x2 (fun w => K (Value.int .i64 0) w) (fun w => nilW a0 (fun x3 w =>
 addW 0 x3 (fun x4 w =>
 load1W x4 (fun x5 w =>
 CP Tryz.prog Fn.arena_Alloc [x5, a1] (fun x6 w =>
 extractW 0 x6 (fun x7 w =>
 extractW 1 x6 (fun x8 w =>
 CP Tryz.prog Fn.draft_Draft_Fail [a0, x8] (fun x9 w =>
 K x7 w) w) w) w) w) w) w) w) w) w) w

theorem Q_draft_Draft_Alloc (a0 a1 : Value) (K : KV) : S_draft_Draft_Alloc a0 a1 K = P_draft_Draft_Alloc a0 a1 K := by
  unfold S_draft_Draft_Alloc P_draft_Draft_Alloc
  generalize @CP = y_CP
  generalize @addW = y_addW
  generalize @condP = y_condP
  generalize @extractW = y_extractW
  generalize @load1W = y_load1W
  generalize @nilW = y_nilW
  generalize @notW = y_notW
  rfl

/-- draft_Draft_Point -/
def P_draft_Draft_Point (a0 a1 a2 : Value) (K : KV) : World → Prop := fun w =>
 convW .u64 a2 (fun x1 w =>
 CP Tryz.prog Fn.draft_Draft_Write [a0, a1, x1] (fun x2 w =>
 K (Value.tuple #[]) w) w) w

theorem Q_draft_Draft_Point (a0 a1 a2 : Value) (K : KV) : S_draft_Draft_Point a0 a1 a2 K = P_draft_Draft_Point a0 a1 a2 K := by
  unfold S_draft_Draft_Point P_draft_Draft_Point
  generalize @CP = y_CP
  generalize @convW = y_convW
  rfl

/-- table_Get_1 -/
def P_table_Get_1 (a0 a1 a2 a3 a4 : Value) (K : KV) : World → Prop := fun w =>
 load1W a1 (fun x1 w =>
 CP Tryz.prog Fn.table_open [a0, x1] (fun x2 w =>
 CP Tryz.prog Fn.draft_Draft_OK [a0] (fun x3 w =>
 notW x3 (fun x4 w =>
 gW x4 false (fun K w => K x2 w) (fun x5 w =>
 gW x4 false (fun K w => nilW x5 K w) (fun x6 w =>
 gW x4 false (fun K w => addW 1 x6 K w) (fun x7 w =>
 gW x4 false (fun K w => load1W x7 K w) (fun x8 w =>
 gW x4 false (fun K w => binIntW .eql x8 (Value.int .i64 0) K w) (fun x9 w =>
 pickW x4 (Value.bool true) x9 (fun x10 w =>
 condP x10 (fun w => K (Value.tuple #[]) w) (fun w => load1W a2 (fun x11 w =>
 CP Tryz.prog Fn.table_table_seek [x2, x11] (fun x12 w =>
 extractW 0 x12 (fun x13 w =>
 extractW 1 x12 (fun x14 w =>
 binIntW .neq x14 (Value.int .i64 0) (fun x15 w =>
 joinW0 (fun  w =>
 K (Value.tuple #[]) w) (fun j1 w =>
 condP x15 (fun w => binIntW .add x14 (Value.int .i64 1) (fun x16 w =>
 CP Tryz.prog Fn.draft_Draft_Read [a0, x16] (fun x17 w =>
 storeW 1 a3 x17 (fun _ w =>
 storeW 1 a4 (Value.bool true) (fun _ w =>
 j1  w) w) w) w) w) (fun w => j1  w) w) w) w) w) w) w) w) w) w) w) w) w) w) w) w) w) w) w

theorem Q_table_Get_1 (a0 a1 a2 a3 a4 : Value) (K : KV) : S_table_Get_1 a0 a1 a2 a3 a4 K = P_table_Get_1 a0 a1 a2 a3 a4 K := by
  unfold S_table_Get_1 P_table_Get_1
  generalize @CP = y_CP
  generalize @addW = y_addW
  generalize @binIntW = y_binIntW
  generalize @condP = y_condP
  generalize @extractW = y_extractW
  generalize @gW = y_gW
  generalize @joinW0 = y_joinW0
  generalize @load1W = y_load1W
  generalize @nilW = y_nilW
  generalize @notW = y_notW
  generalize @pickW = y_pickW
  generalize @storeW = y_storeW
  rfl

/-- draft_Draft_Read -/
def P_draft_Draft_Read (a0 a1 : Value) (K : KV) : World → Prop := fun w =>
 CP Tryz.prog Fn.draft_Draft_OK [a0] (fun x1 w =>
 notW x1 (fun x2 w =>
 condP x2 (fun w => K (Value.int .u64 0) w) (fun w => nilW a0 (fun x3 w =>
 addW 0 x3 (fun x4 w =>
 load1W x4 (fun x5 w =>
 CP Tryz.prog Fn.view_View_Read [x5, a1] (fun x6 w =>
 extractW 0 x6 (fun x7 w =>
 extractW 1 x6 (fun x8 w =>
 CP Tryz.prog Fn.draft_Draft_Fail [a0, x8] (fun x9 w =>
 K x7 w) w) w) w) w) w) w) w) w) w) w

theorem Q_draft_Draft_Read (a0 a1 : Value) (K : KV) : S_draft_Draft_Read a0 a1 K = P_draft_Draft_Read a0 a1 K := by
  unfold S_draft_Draft_Read P_draft_Draft_Read
  generalize @CP = y_CP
  generalize @addW = y_addW
  generalize @condP = y_condP
  generalize @extractW = y_extractW
  generalize @load1W = y_load1W
  generalize @nilW = y_nilW
  generalize @notW = y_notW
  rfl

/-- table_All_1 -/
def P_table_All_1 (a0 a1 a2 : Value) (K : KV) : World → Prop := fun w =>
 boxW a0 (fun x1 w =>
 load1W x1 (fun x2 w =>
 load1W a1 (fun x3 w =>
 CP Tryz.prog Fn.table_open [x2, x3] (fun x4 w =>
 load1W x1 (fun x5 w =>
 CP Tryz.prog Fn.draft_Draft_OK [x5] (fun x6 w =>
 notW x6 (fun x7 w =>
 gW x7 false (fun K w => K x4 w) (fun x8 w =>
 gW x7 false (fun K w => nilW x8 K w) (fun x9 w =>
 gW x7 false (fun K w => addW 1 x9 K w) (fun x10 w =>
 gW x7 false (fun K w => load1W x10 K w) (fun x11 w =>
 gW x7 false (fun K w => binIntW .eql x11 (Value.int .i64 0) K w) (fun x12 w =>
 pickW x7 (Value.bool true) x12 (fun x13 w =>
 condP x13 (fun w => K (Value.tuple #[]) w) (fun w => CP Tryz.prog Fn.table_table_each [x4, (Value.func (.func Fn.table_All_1_1) #[] #[a2, x1])] (fun x14 w =>
 K (Value.tuple #[]) w) w) w) w) w) w) w) w) w) w) w) w) w) w) w) w

theorem Q_table_All_1 (a0 a1 a2 : Value) (K : KV) : S_table_All_1 a0 a1 a2 K = P_table_All_1 a0 a1 a2 K := by
  unfold S_table_All_1 P_table_All_1
  generalize @CP = y_CP
  generalize @addW = y_addW
  generalize @binIntW = y_binIntW
  generalize @boxW = y_boxW
  generalize @condP = y_condP
  generalize @gW = y_gW
  generalize @load1W = y_load1W
  generalize @nilW = y_nilW
  generalize @notW = y_notW
  generalize @pickW = y_pickW
  rfl

/-- table_table_each -/
def P_table_table_each (a0 a1 : Value) (K : KV) : World → Prop := fun w =>
 nilW a0 (fun x1 w =>
 addW 2 x1 (fun x2 w =>
 load1W x2 (fun x3 w =>
 loopW1 (Value.int .i64 0) (fun J1 x4 w =>
 binIntW .lss x4 x3 (fun x5 w =>
 condP x5 (fun w => drewW (fun w => nilW a0 (fun x6 w =>
 addW 0 x6 (fun x7 w =>
 load1W x7 (fun x8 w =>
 nilW a0 (fun x9 w =>
 addW 3 x9 (fun x10 w =>
 load1W x10 (fun x11 w =>
 binIntW .add x11 x4 (fun x12 w =>
 CP Tryz.prog Fn.draft_Draft_Place [x8, x12] (fun x13 w =>
 andP (fun w => andP (fun w => trueP w) (fun w => andP (fun w => trueP w) (fun w => trueP w) w) w) (fun w =>
 loopW1 x13 (fun J2 x14 w =>
 binIntW .neq x14 (Value.int .i64 0) (fun x15 w =>
 gW x15 true (fun K w => K a0 w) (fun x16 w =>
 gW x15 true (fun K w => nilW x16 K w) (fun x17 w =>
 gW x15 true (fun K w => addW 0 x17 K w) (fun x18 w =>
 gW x15 true (fun K w => load1W x18 K w) (fun x19 w =>
 gW x15 true (fun K w => CP Tryz.prog Fn.draft_Draft_Step [x19] K w) (fun x20 w =>
 pickW x15 x20 (Value.bool false) (fun x21 w =>
 condP x21 (fun w => nilW a0 (fun x22 w =>
 addW 0 x22 (fun x23 w =>
 load1W x23 (fun x24 w =>
 binIntW .add x14 (Value.int .i64 2) (fun x25 w =>
 CP Tryz.prog Fn.draft_Draft_Place [x24, x25] (fun x26 w =>
 dynW Tryz.prog a1 [x14] (fun x27 w =>
 J2 x26 w) w) w) w) w) w) w) (fun w => binIntW .add x4 (Value.int .i64 1) (fun x28 w =>
 J1 x28 w) w) w) w) w) w) w) w) w) w) w) w) w) w) w) w) w) w) w) w) w) (fun w => K (Value.tuple #[]) w) w) w) w) w) w) w

theorem Q_table_table_each (a0 a1 : Value) (K : KV) : S_table_table_each a0 a1 K = P_table_table_each a0 a1 K := by
  unfold S_table_table_each P_table_table_each
  generalize @CP = y_CP
  generalize @addW = y_addW
  generalize @andP = y_andP
  generalize @binIntW = y_binIntW
  generalize @condP = y_condP
  generalize @drewW = y_drewW
  generalize @dynW = y_dynW
  generalize @gW = y_gW
  generalize @load1W = y_load1W
  generalize @loopW1 = y_loopW1
  generalize @nilW = y_nilW
  generalize @pickW = y_pickW
  rfl

/-- table_All_1_1 -/
def P_table_All_1_1 (a0 a1 a2 : Value) (K : KV) : World → Prop := fun w =>
 drewW (fun w => load1W a1 (fun x1 w =>
 load1W a2 (fun x2 w =>
 binIntW .add a0 (Value.int .i64 0) (fun x3 w =>
 load1W a2 (fun x4 w =>
 binIntW .add a0 (Value.int .i64 1) (fun x5 w =>
 CP Tryz.prog Fn.draft_Draft_Read [x2, x3] (fun x6 w =>
 andP (fun w => andP (fun w => load1W a2 (fun v w => eqP v x4 w) w) (fun w => andP (fun w => trueP w) (fun w => andP (fun w => load1W a1 (fun v w => eqP v x1 w) w) (fun w => trueP w) w) w) w) (fun w =>
 CP Tryz.prog Fn.draft_Draft_Read [x4, x5] (fun x7 w =>
 andP (fun w => andP (fun w => trueP w) (fun w => andP (fun w => load1W a1 (fun v w => eqP v x1 w) w) (fun w => trueP w) w) w) (fun w =>
 buildW [(Value.int .u64 0), (Value.int .u64 0)] [(0, 1, x6), (1, 1, x7)] (fun x8 w =>
 buildSliceW [(Value.int .u64 0), (Value.int .u64 0)] 1 [(0, 2, x8)] (fun x9 w =>
 andP (fun w => andP (fun w => load1W a1 (fun v w => eqP v x1 w) w) (fun w => trueP w) w) (fun w =>
 appendW 2 16 x1 x9 (fun x10 w =>
 andP (fun w => andP (fun w => trueP w) (fun w => trueP w) w) (fun w =>
 storeW 1 a1 x10 (fun _ w =>
 andP (fun w => trueP w) (fun w =>
 K (Value.tuple #[]) w) w) w) w) w) w) w) w) w) w) w) w) w) w) w) w) w) w

theorem Q_table_All_1_1 (a0 a1 a2 : Value) (K : KV) : S_table_All_1_1 a0 a1 a2 K = P_table_All_1_1 a0 a1 a2 K := by
  unfold S_table_All_1_1 P_table_All_1_1
  generalize @CP = y_CP
  generalize @andP = y_andP
  generalize @appendW = y_appendW
  generalize @binIntW = y_binIntW
  generalize @buildSliceW = y_buildSliceW
  generalize @buildW = y_buildW
  generalize @drewW = y_drewW
  generalize @eqP = y_eqP
  generalize @load1W = y_load1W
  generalize @storeW = y_storeW
  rfl

/-- slices_SortFunc_api_Pair_api_Pair -/
def P_slices_SortFunc_api_Pair_api_Pair (a0 a1 : Value) (K : KV) : World → Prop := fun w =>
 lenW a0 (fun x1 w =>
 convW .u64 x1 (fun x2 w =>
 CP Tryz.prog Fn.math_bits_Len [x2] (fun x3 w =>
 CP Tryz.prog Fn.slices_pdqsortCmpFunc_api_Pair [a0, (Value.int .i64 0), x1, x3, a1] (fun x4 w =>
 K (Value.tuple #[]) w) w) w) w) w

theorem Q_slices_SortFunc_api_Pair_api_Pair (a0 a1 : Value) (K : KV) : S_slices_SortFunc_api_Pair_api_Pair a0 a1 K = P_slices_SortFunc_api_Pair_api_Pair a0 a1 K := by
  unfold S_slices_SortFunc_api_Pair_api_Pair P_slices_SortFunc_api_Pair_api_Pair
  generalize @CP = y_CP
  generalize @convW = y_convW
  generalize @lenW = y_lenW
  rfl

/-- table_All_2 -/
def P_table_All_2 (a0 a1 : Value) (K : KV) : World → Prop := fun w =>
 boxW a0 (fun x1 w =>
 boxW a1 (fun x2 w =>
 addW 0 x1 (fun x3 w =>
 load1W x3 (fun x4 w =>
 addW 0 x2 (fun x5 w =>
 load1W x5 (fun x6 w =>
 CP Tryz.prog Fn.cmp_Compare_uint64 [x4, x6] (fun x7 w =>
 K x7 w) w) w) w) w) w) w) w

theorem Q_table_All_2 (a0 a1 : Value) (K : KV) : S_table_All_2 a0 a1 K = P_table_All_2 a0 a1 K := by
  unfold S_table_All_2 P_table_All_2
  generalize @CP = y_CP
  generalize @addW = y_addW
  generalize @boxW = y_boxW
  generalize @load1W = y_load1W
  rfl

/-- cmp_Compare_uint64 -/
def P_cmp_Compare_uint64 (a0 a1 : Value) (K : KV) : World → Prop := fun w =>
 CP Tryz.prog Fn.cmp_isNaN_uint64 [a0] (fun x1 w =>
 CP Tryz.prog Fn.cmp_isNaN_uint64 [a1] (fun x2 w =>
 condP x1 (fun w => condP x2 (fun w => K (Value.int .i64 0) w) (fun w => K (Value.int .i64 (-1)) w) w) (fun w => condP x2 (fun w => K (Value.int .i64 1) w) (fun w => binIntW .lss a0 a1 (fun x3 w =>
 condP x3 (fun w => K (Value.int .i64 (-1)) w) (fun w => binIntW .gtr a0 a1 (fun x4 w =>
 condP x4 (fun w => K (Value.int .i64 1) w) (fun w => K (Value.int .i64 0) w) w) w) w) w) w) w) w) w

theorem Q_cmp_Compare_uint64 (a0 a1 : Value) (K : KV) : S_cmp_Compare_uint64 a0 a1 K = P_cmp_Compare_uint64 a0 a1 K := by
  unfold S_cmp_Compare_uint64 P_cmp_Compare_uint64
  generalize @CP = y_CP
  generalize @binIntW = y_binIntW
  generalize @condP = y_condP
  rfl

/-- keep_Objects_Put -/
def P_keep_Objects_Put (a0 a1 a2 a3 : Value) (K : KV) : World → Prop := fun w =>
 CP Tryz.prog Fn.keep_Objects_Find [a0, a1, a2] (fun x1 w =>
 extractW 0 x1 (fun x2 w =>
 extractW 1 x1 (fun x3 w =>
 condP x3 (fun w => nilW a0 (fun x4 w =>
 addW 0 x4 (fun x5 w =>
 idxArrW 8 1 x5 a1 (fun x6 w =>
 load1W x6 (fun x7 w =>
 idxW 2 x7 x2 (fun x8 w =>
 addW 1 x8 (fun x9 w =>
 storeW 1 x9 a3 (fun _ w =>
 K (Value.bool false) w) w) w) w) w) w) w) w) (fun w => nilW a0 (fun x11 w =>
 addW 0 x11 (fun x12 w =>
 idxArrW 8 1 x12 a1 (fun x13 w =>
 load1W x13 (fun x14 w =>
 sliceW 2 x14 none (some x2) (fun x15 w =>
 appendW 2 16 (Value.slice none 0 0) x15 (fun x16 w =>
 buildW [(Value.int .u64 0), (Value.int .u64 0)] [(0, 1, a2), (1, 1, a3)] (fun x17 w =>
 buildSliceW [(Value.int .u64 0), (Value.int .u64 0)] 1 [(0, 2, x17)] (fun x18 w =>
 appendW 2 16 x16 x18 (fun x19 w =>
 drewW (fun w => nilW a0 (fun x20 w =>
 addW 0 x20 (fun x21 w =>
 idxArrW 8 1 x21 a1 (fun x22 w =>
 load1W x22 (fun x23 w =>
 sliceW 2 x23 (some x2) none (fun x24 w =>
 nilW a0 (fun x25 w =>
 addW 0 x25 (fun x26 w =>
 appendW 2 16 x19 x24 (fun x27 w =>
 andP (fun w => andP (fun w => trueP w) (fun w => trueP w) w) (fun w =>
 idxArrW 8 1 x26 a1 (fun x28 w =>
 storeW 1 x28 x27 (fun _ w =>
 andP (fun w => trueP w) (fun w =>
 K (Value.bool true) w) w) w) w) w) w) w) w) w) w) w) w) w) w) w) w) w) w) w) w) w) w) w) w) w) w) w

theorem Q_keep_Objects_Put (a0 a1 a2 a3 : Value) (K : KV) : S_keep_Objects_Put a0 a1 a2 a3 K = P_keep_Objects_Put a0 a1 a2 a3 K := by
  unfold S_keep_Objects_Put P_keep_Objects_Put
  generalize @CP = y_CP
  generalize @addW = y_addW
  generalize @andP = y_andP
  generalize @appendW = y_appendW
  generalize @buildSliceW = y_buildSliceW
  generalize @buildW = y_buildW
  generalize @condP = y_condP
  generalize @drewW = y_drewW
  generalize @extractW = y_extractW
  generalize @idxArrW = y_idxArrW
  generalize @idxW = y_idxW
  generalize @load1W = y_load1W
  generalize @nilW = y_nilW
  generalize @sliceW = y_sliceW
  generalize @storeW = y_storeW
  rfl

/-- keep_Objects_Del -/
def P_keep_Objects_Del (a0 a1 a2 : Value) (K : KV) : World → Prop := fun w =>
 CP Tryz.prog Fn.keep_Objects_Find [a0, a1, a2] (fun x1 w =>
 extractW 0 x1 (fun x2 w =>
 extractW 1 x1 (fun x3 w =>
 notW x3 (fun x4 w =>
 condP x4 (fun w => K (Value.bool false) w) (fun w => nilW a0 (fun x5 w =>
 addW 0 x5 (fun x6 w =>
 idxArrW 8 1 x6 a1 (fun x7 w =>
 load1W x7 (fun x8 w =>
 sliceW 2 x8 none (some x2) (fun x9 w =>
 appendW 2 16 (Value.slice none 0 0) x9 (fun x10 w =>
 drewW (fun w => nilW a0 (fun x11 w =>
 addW 0 x11 (fun x12 w =>
 idxArrW 8 1 x12 a1 (fun x13 w =>
 load1W x13 (fun x14 w =>
 binIntW .add x2 (Value.int .i64 1) (fun x15 w =>
 sliceW 2 x14 (some x15) none (fun x16 w =>
 nilW a0 (fun x17 w =>
 addW 0 x17 (fun x18 w =>
 appendW 2 16 x10 x16 (fun x19 w =>
 andP (fun w => andP (fun w => trueP w) (fun w => trueP w) w) (fun w =>
 idxArrW 8 1 x18 a1 (fun x20 w =>
 storeW 1 x20 x19 (fun _ w =>
 andP (fun w => trueP w) (fun w =>
 K (Value.bool true) w) w) w) w) w) w) w) w) w) w) w) w) w) w) w) w) w) w) w) w) w) w) w) w) w) w

theorem Q_keep_Objects_Del (a0 a1 a2 : Value) (K : KV) : S_keep_Objects_Del a0 a1 a2 K = P_keep_Objects_Del a0 a1 a2 K := by
  unfold S_keep_Objects_Del P_keep_Objects_Del
  generalize @CP = y_CP
  generalize @addW = y_addW
  generalize @andP = y_andP
  generalize @appendW = y_appendW
  generalize @binIntW = y_binIntW
  generalize @condP = y_condP
  generalize @drewW = y_drewW
  generalize @extractW = y_extractW
  generalize @idxArrW = y_idxArrW
  generalize @load1W = y_load1W
  generalize @nilW = y_nilW
  generalize @notW = y_notW
  generalize @sliceW = y_sliceW
  generalize @storeW = y_storeW
  rfl

/-- keep_Objects_Find -/
def P_keep_Objects_Find (a0 a1 a2 : Value) (K : KV) : World → Prop := fun w =>
 loopW1 (Value.int .i64 0) (fun J1 x1 w =>
 nilW a0 (fun x2 w =>
 addW 0 x2 (fun x3 w =>
 idxArrW 8 1 x3 a1 (fun x4 w =>
 load1W x4 (fun x5 w =>
 lenW x5 (fun x6 w =>
 binIntW .lss x1 x6 (fun x7 w =>
 gW x7 true (fun K w => K a0 w) (fun x8 w =>
 gW x7 true (fun K w => K a1 w) (fun x9 w =>
 gW x7 true (fun K w => nilW x8 K w) (fun x10 w =>
 gW x7 true (fun K w => addW 0 x10 K w) (fun x11 w =>
 gW x7 true (fun K w => idxArrW 8 1 x11 x9 K w) (fun x12 w =>
 gW x7 true (fun K w => load1W x12 K w) (fun x13 w =>
 gW x7 true (fun K w => K x1 w) (fun x14 w =>
 gW x7 true (fun K w => idxW 2 x13 x14 K w) (fun x15 w =>
 gW x7 true (fun K w => addW 0 x15 K w) (fun x16 w =>
 gW x7 true (fun K w => load1W x16 K w) (fun x17 w =>
 gW x7 true (fun K w => K a2 w) (fun x18 w =>
 gW x7 true (fun K w => binIntW .lss x17 x18 K w) (fun x19 w =>
 pickW x7 x19 (Value.bool false) (fun x20 w =>
 condP x20 (fun w => binIntW .add x1 (Value.int .i64 1) (fun x21 w =>
 J1 x21 w) w) (fun w => drewW (fun w => nilW a0 (fun x22 w =>
 addW 0 x22 (fun x23 w =>
 idxArrW 8 1 x23 a1 (fun x24 w =>
 load1W x24 (fun x25 w =>
 lenW x25 (fun x26 w =>
 binIntW .lss x1 x26 (fun x27 w =>
 gW x27 true (fun K w => K a0 w) (fun x28 w =>
 gW x27 true (fun K w => K a1 w) (fun x29 w =>
 gW x27 true (fun K w => nilW x28 K w) (fun x30 w =>
 gW x27 true (fun K w => addW 0 x30 K w) (fun x31 w =>
 gW x27 true (fun K w => idxArrW 8 1 x31 x29 K w) (fun x32 w =>
 gW x27 true (fun K w => load1W x32 K w) (fun x33 w =>
 gW x27 true (fun K w => K x1 w) (fun x34 w =>
 gW x27 true (fun K w => idxW 2 x33 x34 K w) (fun x35 w =>
 gW x27 true (fun K w => addW 0 x35 K w) (fun x36 w =>
 gW x27 true (fun K w => load1W x36 K w) (fun x37 w =>
 gW x27 true (fun K w => K a2 w) (fun x38 w =>
 gW x27 true (fun K w => binIntW .eql x37 x38 K w) (fun x39 w =>
 pickW x27 x39 (Value.bool false) (fun x40 w =>
 K (Value.tuple #[x1, x40]) w) w) w) w) w) w) w) w) w) w) w) w) w) w) w) w) w) w) w) w) w) w) w) w) w) w) w) w) w) w) w) w) w) w) w) w) w) w) w) w) w) w

theorem Q_keep_Objects_Find (a0 a1 a2 : Value) (K : KV) : S_keep_Objects_Find a0 a1 a2 K = P_keep_Objects_Find a0 a1 a2 K := by
  unfold S_keep_Objects_Find P_keep_Objects_Find
  generalize @addW = y_addW
  generalize @binIntW = y_binIntW
  generalize @condP = y_condP
  generalize @drewW = y_drewW
  generalize @gW = y_gW
  generalize @idxArrW = y_idxArrW
  generalize @idxW = y_idxW
  generalize @lenW = y_lenW
  generalize @load1W = y_load1W
  generalize @loopW1 = y_loopW1
  generalize @nilW = y_nilW
  generalize @pickW = y_pickW
  rfl

/-- keep_Objects_Count -/
def P_keep_Objects_Count (a0 a1 a2 a3 : Value) (K : KV) : World → Prop := fun w =>
 loopW2 (Value.int .i64 0) (Value.int .i64 0) (fun J1 x1 x2 w =>
 nilW a0 (fun x3 w =>
 addW 0 x3 (fun x4 w =>
 idxArrW 8 1 x4 a1 (fun x5 w =>
 load1W x5 (fun x6 w =>
 lenW x6 (fun x7 w =>
 binIntW .lss x2 x7 (fun x8 w =>
 condP x8 (fun w => nilW a0 (fun x9 w =>
 addW 0 x9 (fun x10 w =>
 idxArrW 8 1 x10 a1 (fun x11 w =>
 load1W x11 (fun x12 w =>
 idxW 2 x12 x2 (fun x13 w =>
 addW 0 x13 (fun x14 w =>
 load1W x14 (fun x15 w =>
 binIntW .geq x15 a2 (fun x16 w =>
 gW x16 true (fun K w => K a0 w) (fun x17 w =>
 gW x16 true (fun K w => K a1 w) (fun x18 w =>
 gW x16 true (fun K w => nilW x17 K w) (fun x19 w =>
 gW x16 true (fun K w => addW 0 x19 K w) (fun x20 w =>
 gW x16 true (fun K w => idxArrW 8 1 x20 x18 K w) (fun x21 w =>
 gW x16 true (fun K w => load1W x21 K w) (fun x22 w =>
 gW x16 true (fun K w => K x2 w) (fun x23 w =>
 gW x16 true (fun K w => idxW 2 x22 x23 K w) (fun x24 w =>
 gW x16 true (fun K w => addW 0 x24 K w) (fun x25 w =>
 gW x16 true (fun K w => load1W x25 K w) (fun x26 w =>
 gW x16 true (fun K w => K a3 w) (fun x27 w =>
 gW x16 true (fun K w => binIntW .leq x26 x27 K w) (fun x28 w =>
 pickW x16 x28 (Value.bool false) (fun x29 w =>
 joinW1 (fun x30 w =>
 binIntW .add x2 (Value.int .i64 1) (fun x31 w =>
 J1 x30 x31 w) w) (fun j1 w =>
 condP x29 (fun w => binIntW .add x1 (Value.int .i64 1) (fun x32 w =>
 j1 x32 w) w) (fun w => j1 x1 w) w) w) w) w) w) w) w) w) w) w) w) w) w) w) w) w) w) w) w) w) w) w) w) (fun w => K x1 w) w) w) w) w) w) w) w) w

theorem Q_keep_Objects_Count (a0 a1 a2 a3 : Value) (K : KV) : S_keep_Objects_Count a0 a1 a2 a3 K = P_keep_Objects_Count a0 a1 a2 a3 K := by
  unfold S_keep_Objects_Count P_keep_Objects_Count
  generalize @addW = y_addW
  generalize @binIntW = y_binIntW
  generalize @condP = y_condP
  generalize @gW = y_gW
  generalize @idxArrW = y_idxArrW
  generalize @idxW = y_idxW
  generalize @joinW1 = y_joinW1
  generalize @lenW = y_lenW
  generalize @load1W = y_load1W
  generalize @loopW2 = y_loopW2
  generalize @nilW = y_nilW
  generalize @pickW = y_pickW
  rfl

/-- ref21_Apply -/
def P_ref21_Apply (a0 a1 : Value) (K : KV) : World → Prop := fun w =>
 CP Tryz.prog Fn.ref7_Whole [a0, (Value.int .i64 0)] (fun x1 w =>
 nilW x1 (fun x2 w =>
 addW 0 x2 (fun x3 w =>
 load1W x3 (fun x4 w =>
 makeSliceW 8 [(Value.int .u64 0)] x4 x4 (fun x5 w =>
 loopW1 (Value.int .i64 0) (fun J1 x6 w =>
 nilW x1 (fun x7 w =>
 addW 1 x7 (fun x8 w =>
 load1W x8 (fun x9 w =>
 lenW x9 (fun x10 w =>
 binIntW .lss x6 x10 (fun x11 w =>
 condP x11 (fun w => drewW (fun w => nilW x1 (fun x12 w =>
 addW 1 x12 (fun x13 w =>
 load1W x13 (fun x14 w =>
 idxW 2 x14 x6 (fun x15 w =>
 addW 0 x15 (fun x16 w =>
 load1W x16 (fun x17 w =>
 nilW x1 (fun x18 w =>
 addW 1 x18 (fun x19 w =>
 load1W x19 (fun x20 w =>
 idxW 2 x20 x6 (fun x21 w =>
 addW 1 x21 (fun x22 w =>
 load1W x22 (fun x23 w =>
 idxW 1 x5 x17 (fun x24 w =>
 storeW 1 x24 x23 (fun _ w =>
 andP (fun w => andP (fun w => trueP w) (fun w => andP (fun w => trueP w) (fun w => andP (fun w => trueP w) (fun w => andP (fun w => trueP w) (fun w => trueP w) w) w) w) w) (fun w =>
 binIntW .add x6 (Value.int .i64 1) (fun x26 w =>
 J1 x26 w) w) w) w) w) w) w) w) w) w) w) w) w) w) w) w) w) w) (fun w => loopW1 (Value.int .i64 0) (fun J2 x27 w =>
 lenW a1 (fun x28 w =>
 binIntW .lss x27 x28 (fun x29 w =>
 condP x29 (fun w => idxW 2 a1 x27 (fun x30 w =>
 addW 0 x30 (fun x31 w =>
 load1W x31 (fun x32 w =>
 CP Tryz.prog Fn.ref7_View_In [x1, x32] (fun x33 w =>
 joinW0 (fun  w =>
 binIntW .add x27 (Value.int .i64 1) (fun x34 w =>
 J2 x34 w) w) (fun j1 w =>
 condP x33 (fun w => drewW (fun w => idxW 2 a1 x27 (fun x35 w =>
 addW 0 x35 (fun x36 w =>
 load1W x36 (fun x37 w =>
 idxW 2 a1 x27 (fun x38 w =>
 addW 1 x38 (fun x39 w =>
 load1W x39 (fun x40 w =>
 idxW 1 x5 x37 (fun x41 w =>
 storeW 1 x41 x40 (fun _ w =>
 andP (fun w => andP (fun w => trueP w) (fun w => andP (fun w => trueP w) (fun w => trueP w) w) w) (fun w =>
 j1  w) w) w) w) w) w) w) w) w) w) w) (fun w => j1  w) w) w) w) w) w) w) (fun w => K x5 w) w) w) w) w) w) w) w) w) w) w) w) w) w) w) w) w

theorem Q_ref21_Apply (a0 a1 : Value) (K : KV) : S_ref21_Apply a0 a1 K = P_ref21_Apply a0 a1 K := by
  unfold S_ref21_Apply P_ref21_Apply
  generalize @CP = y_CP
  generalize @addW = y_addW
  generalize @andP = y_andP
  generalize @binIntW = y_binIntW
  generalize @condP = y_condP
  generalize @drewW = y_drewW
  generalize @idxW = y_idxW
  generalize @joinW0 = y_joinW0
  generalize @lenW = y_lenW
  generalize @load1W = y_load1W
  generalize @loopW1 = y_loopW1
  generalize @makeSliceW = y_makeSliceW
  generalize @nilW = y_nilW
  generalize @storeW = y_storeW
  rfl

/-- arena_Give -/
def P_arena_Give (a0 a1 : Value) (K : KV) : World → Prop := fun w =>
 CP Tryz.prog Fn.arena_asked [a0, a1] (fun x1 w =>
 extractW 0 x1 (fun x2 w =>
 extractW 1 x1 (fun x3 w =>
 extractW 2 x1 (fun x4 w =>
 binIntW .eql x4 (Value.int .i64 0) (fun x5 w =>
 gW x5 true (fun K w => K x3 w) (fun x6 w =>
 pickW x5 x6 (Value.bool false) (fun x7 w =>
 joinW1 (fun x8 w =>
 binIntW .neq x8 (Value.int .i64 0) (fun x9 w =>
 condP x9 (fun w => K x8 w) (fun w => CP Tryz.prog Fn.arena_head [x2] (fun x10 w =>
 CP Tryz.prog Fn.view_View_Read [a0, x10] (fun x11 w =>
 extractW 0 x11 (fun x12 w =>
 extractW 1 x11 (fun x13 w =>
 binIntW .neq x13 (Value.int .i64 0) (fun x14 w =>
 condP x14 (fun w => K x13 w) (fun w => buildW [(Value.int .i64 0), (Value.int .u64 0)] [(0, 1, a1), (1, 1, x12)] (fun x15 w =>
 CP Tryz.prog Fn.arena_head [x2] (fun x16 w =>
 convW .u64 a1 (fun x17 w =>
 buildW [(Value.int .i64 0), (Value.int .u64 0)] [(0, 1, x16), (1, 1, x17)] (fun x18 w =>
 buildSliceW [(Value.int .i64 0), (Value.int .u64 0)] 2 [(0, 2, x15), (2, 2, x18)] (fun x19 w =>
 CP Tryz.prog Fn.view_View_Take [a0, x19] (fun x20 w =>
 K x20 w) w) w) w) w) w) w) w) w) w) w) w) w) w) w) (fun j1 w =>
 condP x7 (fun w => j1 (Value.int .i64 2) w) (fun w => j1 x4 w) w) w) w) w) w) w) w) w) w

theorem Q_arena_Give (a0 a1 : Value) (K : KV) : S_arena_Give a0 a1 K = P_arena_Give a0 a1 K := by
  unfold S_arena_Give P_arena_Give
  generalize @CP = y_CP
  generalize @binIntW = y_binIntW
  generalize @buildSliceW = y_buildSliceW
  generalize @buildW = y_buildW
  generalize @condP = y_condP
  generalize @convW = y_convW
  generalize @extractW = y_extractW
  generalize @gW = y_gW
  generalize @joinW1 = y_joinW1
  generalize @pickW = y_pickW
  rfl

/-- table_Len -/
def P_table_Len (a0 a1 : Value) (K : KV) : World → Prop := fun w =>
 boxW a1 (fun x1 w =>
 newW #[(Value.int .i64 0)] (fun x2 w =>
 storeW 1 x2 (Value.int .i64 0) (fun _ w =>
 load1W x1 (fun x4 w =>
 CP Tryz.prog Fn.draft_Do [a0, x4, (Value.func (.func Fn.table_Len_1) #[] #[x1, x2])] (fun x5 w =>
 binIntW .neq x5 (Value.int .i64 0) (fun x6 w =>
 condP x6 (fun w => K (Value.tuple #[(Value.int .i64 0), x5]) w) (fun w => load1W x2 (fun x7 w =>
 K (Value.tuple #[x7, (Value.int .i64 0)]) w) w) w) w) w) w) w) w) w

theorem Q_table_Len (a0 a1 : Value) (K : KV) : S_table_Len a0 a1 K = P_table_Len a0 a1 K := by
  unfold S_table_Len P_table_Len
  generalize @CP = y_CP
  generalize @binIntW = y_binIntW
  generalize @boxW = y_boxW
  generalize @condP = y_condP
  generalize @load1W = y_load1W
  generalize @newW = y_newW
  generalize @storeW = y_storeW
  rfl

/-- levels_fresh -/
def P_levels_fresh (K : KV) : World → Prop := fun w =>
 CP Tryz.prog Fn.writes_New [(Value.int .i64 96)] (fun x1 w =>
 buildW [(Value.pointer none), (Value.slice none 0 0)] [(0, 1, x1)] (fun x2 w =>
 boxW x2 (fun x3 w =>
 K x3 w) w) w) w

theorem Q_levels_fresh (K : KV) : S_levels_fresh K = P_levels_fresh K := by
  unfold S_levels_fresh P_levels_fresh
  generalize @CP = y_CP
  generalize @boxW = y_boxW
  generalize @buildW = y_buildW
  rfl

/-- table_Del_1 -/
def P_table_Del_1 (a0 a1 a2 a3 : Value) (K : KV) : World → Prop := fun w =>
 load1W a1 (fun x1 w =>
 CP Tryz.prog Fn.table_open [a0, x1] (fun x2 w =>
 CP Tryz.prog Fn.draft_Draft_OK [a0] (fun x3 w =>
 notW x3 (fun x4 w =>
 gW x4 false (fun K w => K x2 w) (fun x5 w =>
 gW x4 false (fun K w => nilW x5 K w) (fun x6 w =>
 gW x4 false (fun K w => addW 1 x6 K w) (fun x7 w =>
 gW x4 false (fun K w => load1W x7 K w) (fun x8 w =>
 gW x4 false (fun K w => binIntW .eql x8 (Value.int .i64 0) K w) (fun x9 w =>
 pickW x4 (Value.bool true) x9 (fun x10 w =>
 condP x10 (fun w => K (Value.tuple #[]) w) (fun w => load1W a2 (fun x11 w =>
 CP Tryz.prog Fn.table_table_seek [x2, x11] (fun x12 w =>
 extractW 0 x12 (fun x13 w =>
 extractW 1 x12 (fun x14 w =>
 binIntW .neq x14 (Value.int .i64 0) (fun x15 w =>
 joinW0 (fun  w =>
 K (Value.tuple #[]) w) (fun j1 w =>
 condP x15 (fun w => binIntW .add x14 (Value.int .i64 2) (fun x16 w =>
 CP Tryz.prog Fn.draft_Draft_Read [a0, x16] (fun x17 w =>
 CP Tryz.prog Fn.draft_Draft_Write [a0, x13, x17] (fun x18 w =>
 drewW (fun w => nilW x2 (fun x19 w =>
 addW 1 x19 (fun x20 w =>
 load1W x20 (fun x21 w =>
 binIntW .add x21 (Value.int .i64 0) (fun x22 w =>
 nilW x2 (fun x23 w =>
 addW 4 x23 (fun x24 w =>
 load1W x24 (fun x25 w =>
 binIntW .sub x25 (Value.int .u64 1) (fun x26 w =>
 CP Tryz.prog Fn.draft_Draft_Write [a0, x22, x26] (fun x27 w =>
 andP (fun w => andP (fun w => trueP w) (fun w => andP (fun w => trueP w) (fun w => trueP w) w) w) (fun w =>
 CP Tryz.prog Fn.draft_Draft_Free [a0, x14] (fun x28 w =>
 storeW 1 a3 (Value.bool true) (fun _ w =>
 j1  w) w) w) w) w) w) w) w) w) w) w) w) w) w) w) w) w) (fun w => j1  w) w) w) w) w) w) w) w) w) w) w) w) w) w) w) w) w) w) w

theorem Q_table_Del_1 (a0 a1 a2 a3 : Value) (K : KV) : S_table_Del_1 a0 a1 a2 a3 K = P_table_Del_1 a0 a1 a2 a3 K := by
  unfold S_table_Del_1 P_table_Del_1
  generalize @CP = y_CP
  generalize @addW = y_addW
  generalize @andP = y_andP
  generalize @binIntW = y_binIntW
  generalize @condP = y_condP
  generalize @drewW = y_drewW
  generalize @extractW = y_extractW
  generalize @gW = y_gW
  generalize @joinW0 = y_joinW0
  generalize @load1W = y_load1W
  generalize @nilW = y_nilW
  generalize @notW = y_notW
  generalize @pickW = y_pickW
  generalize @storeW = y_storeW
  rfl

/-- draft_Draft_Free -/
def P_draft_Draft_Free (a0 a1 : Value) (K : KV) : World → Prop := fun w =>
 CP Tryz.prog Fn.draft_Draft_OK [a0] (fun x1 w =>
 joinW0 (fun  w =>
 K (Value.tuple #[]) w) (fun j1 w =>
 condP x1 (fun w => nilW a0 (fun x2 w =>
 addW 0 x2 (fun x3 w =>
 load1W x3 (fun x4 w =>
 CP Tryz.prog Fn.arena_Free [x4, a1] (fun x5 w =>
 CP Tryz.prog Fn.draft_Draft_Fail [a0, x5] (fun x6 w =>
 j1  w) w) w) w) w) w) (fun w => j1  w) w) w) w

theorem Q_draft_Draft_Free (a0 a1 : Value) (K : KV) : S_draft_Draft_Free a0 a1 K = P_draft_Draft_Free a0 a1 K := by
  unfold S_draft_Draft_Free P_draft_Draft_Free
  generalize @CP = y_CP
  generalize @addW = y_addW
  generalize @condP = y_condP
  generalize @joinW0 = y_joinW0
  generalize @load1W = y_load1W
  generalize @nilW = y_nilW
  rfl

/-- slices_Backward_levels_level_levels_level -/
def P_slices_Backward_levels_level_levels_level (a0 : Value) (K : KV) : World → Prop := fun w =>
 boxW a0 (fun x1 w =>
 K (Value.func (.func Fn.slices_Backward_levels_level_levels_level_1) #[] #[x1]) w) w

theorem Q_slices_Backward_levels_level_levels_level (a0 : Value) (K : KV) : S_slices_Backward_levels_level_levels_level a0 K = P_slices_Backward_levels_level_levels_level a0 K := by
  unfold S_slices_Backward_levels_level_levels_level P_slices_Backward_levels_level_levels_level
  generalize @boxW = y_boxW
  rfl

/-- writes_New -/
def P_writes_New (a0 : Value) (K : KV) : World → Prop := fun w =>
 minW a0 [(Value.int .i64 96)] (fun x1 w =>
 maxW (Value.int .i64 0) [x1] (fun x2 w =>
 buildW [(Value.int .i64 0), (Value.slice none 0 0)] [(0, 1, x2)] (fun x3 w =>
 boxW x3 (fun x4 w =>
 K x4 w) w) w) w) w

theorem Q_writes_New (a0 : Value) (K : KV) : S_writes_New a0 K = P_writes_New a0 K := by
  unfold S_writes_New P_writes_New
  generalize @boxW = y_boxW
  generalize @buildW = y_buildW
  generalize @maxW = y_maxW
  generalize @minW = y_minW
  rfl

/-- writes_Writes_Take -/
def P_writes_Writes_Take (a0 a1 : Value) (K : KV) : World → Prop := fun w =>
 CP Tryz.prog Fn.writes_Writes_All [a0] (fun x1 w =>
 lenW a1 (fun x2 w =>
 loopW1 (Value.int .i64 0) (fun J1 x3 w =>
 binIntW .lss x3 x2 (fun x4 w =>
 condP x4 (fun w => idxW 2 a1 x3 (fun x5 w =>
 loadNW 2 x5 (fun x6 w =>
 newW #[(Value.int .i64 0), (Value.int .u64 0)] (fun x7 w =>
 storeW 2 x7 x6 (fun _ w =>
 addW 0 x7 (fun x9 w =>
 load1W x9 (fun x10 w =>
 addW 1 x7 (fun x11 w =>
 load1W x11 (fun x12 w =>
 CP Tryz.prog Fn.writes_Writes_Put [a0, x10, x12] (fun x13 w =>
 binIntW .neq x13 (Value.int .i64 0) (fun x14 w =>
 condP x14 (fun w => nilW a0 (fun x15 w =>
 addW 1 x15 (fun x16 w =>
 storeW 1 x16 x1 (fun _ w =>
 K x13 w) w) w) w) (fun w => binIntW .add x3 (Value.int .i64 1) (fun x18 w =>
 J1 x18 w) w) w) w) w) w) w) w) w) w) w) w) w) (fun w => K (Value.int .i64 0) w) w) w) w) w) w

theorem Q_writes_Writes_Take (a0 a1 : Value) (K : KV) : S_writes_Writes_Take a0 a1 K = P_writes_Writes_Take a0 a1 K := by
  unfold S_writes_Writes_Take P_writes_Writes_Take
  generalize @CP = y_CP
  generalize @addW = y_addW
  generalize @binIntW = y_binIntW
  generalize @condP = y_condP
  generalize @idxW = y_idxW
  generalize @lenW = y_lenW
  generalize @load1W = y_load1W
  generalize @loadNW = y_loadNW
  generalize @loopW1 = y_loopW1
  generalize @newW = y_newW
  generalize @nilW = y_nilW
  generalize @storeW = y_storeW
  rfl

/-- writes_Writes_All -/
def P_writes_Writes_All (a0 : Value) (K : KV) : World → Prop := fun w =>
 nilW a0 (fun x1 w =>
 addW 1 x1 (fun x2 w =>
 load1W x2 (fun x3 w =>
 CP Tryz.prog Fn.slices_Clone_api_Cell_api_Cell [x3] (fun x4 w =>
 K x4 w) w) w) w) w

theorem Q_writes_Writes_All (a0 : Value) (K : KV) : S_writes_Writes_All a0 K = P_writes_Writes_All a0 K := by
  unfold S_writes_Writes_All P_writes_Writes_All
  generalize @CP = y_CP
  generalize @addW = y_addW
  generalize @load1W = y_load1W
  generalize @nilW = y_nilW
  rfl

/-- slices_Index_int_int -/
def P_slices_Index_int_int (a0 a1 : Value) (K : KV) : World → Prop := fun w =>
 lenW a0 (fun x1 w =>
 loopW1 (Value.int .i64 0) (fun J1 x2 w =>
 binIntW .lss x2 x1 (fun x3 w =>
 condP x3 (fun w => idxW 1 a0 x2 (fun x4 w =>
 load1W x4 (fun x5 w =>
 binIntW .eql a1 x5 (fun x6 w =>
 condP x6 (fun w => K x2 w) (fun w => binIntW .add x2 (Value.int .i64 1) (fun x7 w =>
 J1 x7 w) w) w) w) w) w) (fun w => K (Value.int .i64 (-1)) w) w) w) w) w

theorem Q_slices_Index_int_int (a0 a1 : Value) (K : KV) : S_slices_Index_int_int a0 a1 K = P_slices_Index_int_int a0 a1 K := by
  unfold S_slices_Index_int_int P_slices_Index_int_int
  generalize @binIntW = y_binIntW
  generalize @condP = y_condP
  generalize @idxW = y_idxW
  generalize @lenW = y_lenW
  generalize @load1W = y_load1W
  generalize @loopW1 = y_loopW1
  rfl

/-- math_bits_Len -/
def P_math_bits_Len (a0 : Value) (K : KV) : World → Prop := fun w =>
 condP (Value.bool false) (fun w => convW .u32 a0 (fun x1 w =>
 CP Tryz.prog Fn.math_bits_Len32 [x1] (fun x2 w =>
 K x2 w) w) w) (fun w => CP Tryz.prog Fn.math_bits_Len64 [a0] (fun x3 w =>
 K x3 w) w) w

theorem Q_math_bits_Len (a0 : Value) (K : KV) : S_math_bits_Len a0 K = P_math_bits_Len a0 K := by
  unfold S_math_bits_Len P_math_bits_Len
  generalize @CP = y_CP
  generalize @condP = y_condP
  generalize @convW = y_convW
  rfl

/-- draft_of -/
def P_draft_of (a0 : Value) (K : KV) : World → Prop := fun w =>
 CP Tryz.prog Fn.view_View_Size [a0] (fun x1 w =>
 CP Tryz.prog Fn.view_New [x1, (Value.int .i64 96)] (fun x2 w =>
 CP Tryz.prog Fn.view_View_Cells [a0] (fun x3 w =>
 lenW x3 (fun x4 w =>
 loopW1 (Value.int .i64 0) (fun J1 x5 w =>
 binIntW .lss x5 x4 (fun x6 w =>
 condP x6 (fun w => idxW 2 x3 x5 (fun x7 w =>
 loadNW 2 x7 (fun x8 w =>
 newW #[(Value.int .i64 0), (Value.int .u64 0)] (fun x9 w =>
 storeW 2 x9 x8 (fun _ w =>
 addW 0 x9 (fun x11 w =>
 load1W x11 (fun x12 w =>
 addW 1 x9 (fun x13 w =>
 load1W x13 (fun x14 w =>
 CP Tryz.prog Fn.view_View_Know [x2, x12, x14] (fun x15 w =>
 binIntW .add x5 (Value.int .i64 1) (fun x16 w =>
 J1 x16 w) w) w) w) w) w) w) w) w) w) w) (fun w => CP Tryz.prog Fn.view_View_Known [a0] (fun x17 w =>
 lenW x17 (fun x18 w =>
 loopW1 (Value.int .i64 0) (fun J2 x19 w =>
 binIntW .lss x19 x18 (fun x20 w =>
 condP x20 (fun w => idxW 2 x17 x19 (fun x21 w =>
 loadNW 2 x21 (fun x22 w =>
 newW #[(Value.int .i64 0), (Value.int .u64 0)] (fun x23 w =>
 storeW 2 x23 x22 (fun _ w =>
 addW 0 x23 (fun x25 w =>
 load1W x25 (fun x26 w =>
 addW 1 x23 (fun x27 w =>
 load1W x27 (fun x28 w =>
 CP Tryz.prog Fn.view_View_Know [x2, x26, x28] (fun x29 w =>
 binIntW .add x19 (Value.int .i64 1) (fun x30 w =>
 J2 x30 w) w) w) w) w) w) w) w) w) w) w) (fun w => K x2 w) w) w) w) w) w) w) w) w) w) w) w) w

theorem Q_draft_of (a0 : Value) (K : KV) : S_draft_of a0 K = P_draft_of a0 K := by
  unfold S_draft_of P_draft_of
  generalize @CP = y_CP
  generalize @addW = y_addW
  generalize @binIntW = y_binIntW
  generalize @condP = y_condP
  generalize @idxW = y_idxW
  generalize @lenW = y_lenW
  generalize @load1W = y_load1W
  generalize @loadNW = y_loadNW
  generalize @loopW1 = y_loopW1
  generalize @newW = y_newW
  generalize @storeW = y_storeW
  rfl

/-- view_View_Read -/
def P_view_View_Read (a0 a1 : Value) (K : KV) : World → Prop := fun w =>
 CP Tryz.prog Fn.view_View_is [a0, a1] (fun x1 w =>
 notW x1 (fun x2 w =>
 condP x2 (fun w => K (Value.tuple #[(Value.int .u64 0), (Value.int .i64 2)]) w) (fun w => nilW a0 (fun x3 w =>
 addW 2 x3 (fun x4 w =>
 load1W x4 (fun x5 w =>
 CP Tryz.prog Fn.levels_Levels_Get [x5, a1] (fun x6 w =>
 extractW 0 x6 (fun x7 w =>
 extractW 1 x6 (fun x8 w =>
 condP x8 (fun w => K (Value.tuple #[x7, (Value.int .i64 0)]) w) (fun w => nilW a0 (fun x9 w =>
 addW 0 x9 (fun x10 w =>
 load1W x10 (fun x11 w =>
 idxW 2 x11 a1 (fun x12 w =>
 loadNW 2 x12 (fun x13 w =>
 newW #[(Value.int .u64 0), (Value.bool false)] (fun x14 w =>
 storeW 2 x14 x13 (fun _ w =>
 addW 1 x14 (fun x16 w =>
 load1W x16 (fun x17 w =>
 condP x17 (fun w => addW 0 x14 (fun x18 w =>
 load1W x18 (fun x19 w =>
 K (Value.tuple #[x19, (Value.int .i64 0)]) w) w) w) (fun w => nilW a0 (fun x20 w =>
 addW 3 x20 (fun x21 w =>
 storeW 1 x21 a1 (fun _ w =>
 K (Value.tuple #[(Value.int .u64 0), (Value.int .i64 11)]) w) w) w) w) w) w) w) w) w) w) w) w) w) w) w) w) w) w) w) w) w) w) w) w

theorem Q_view_View_Read (a0 a1 : Value) (K : KV) : S_view_View_Read a0 a1 K = P_view_View_Read a0 a1 K := by
  unfold S_view_View_Read P_view_View_Read
  generalize @CP = y_CP
  generalize @addW = y_addW
  generalize @condP = y_condP
  generalize @extractW = y_extractW
  generalize @idxW = y_idxW
  generalize @load1W = y_load1W
  generalize @loadNW = y_loadNW
  generalize @newW = y_newW
  generalize @nilW = y_nilW
  generalize @notW = y_notW
  generalize @storeW = y_storeW
  rfl

/-- view_View_Take -/
def P_view_View_Take (a0 a1 : Value) (K : KV) : World → Prop := fun w =>
 lenW a1 (fun x1 w =>
 loopW1 (Value.int .i64 0) (fun J1 x2 w =>
 binIntW .lss x2 x1 (fun x3 w =>
 condP x3 (fun w => idxW 2 a1 x2 (fun x4 w =>
 loadNW 2 x4 (fun x5 w =>
 newW #[(Value.int .i64 0), (Value.int .u64 0)] (fun x6 w =>
 storeW 2 x6 x5 (fun _ w =>
 addW 0 x6 (fun x8 w =>
 load1W x8 (fun x9 w =>
 CP Tryz.prog Fn.view_View_is [a0, x9] (fun x10 w =>
 notW x10 (fun x11 w =>
 condP x11 (fun w => K (Value.int .i64 2) w) (fun w => binIntW .add x2 (Value.int .i64 1) (fun x12 w =>
 J1 x12 w) w) w) w) w) w) w) w) w) w) w) (fun w => nilW a0 (fun x13 w =>
 addW 2 x13 (fun x14 w =>
 load1W x14 (fun x15 w =>
 CP Tryz.prog Fn.levels_Levels_Take [x15, a1] (fun x16 w =>
 K x16 w) w) w) w) w) w) w) w) w

theorem Q_view_View_Take (a0 a1 : Value) (K : KV) : S_view_View_Take a0 a1 K = P_view_View_Take a0 a1 K := by
  unfold S_view_View_Take P_view_View_Take
  generalize @CP = y_CP
  generalize @addW = y_addW
  generalize @binIntW = y_binIntW
  generalize @condP = y_condP
  generalize @idxW = y_idxW
  generalize @lenW = y_lenW
  generalize @load1W = y_load1W
  generalize @loadNW = y_loadNW
  generalize @loopW1 = y_loopW1
  generalize @newW = y_newW
  generalize @nilW = y_nilW
  generalize @notW = y_notW
  generalize @storeW = y_storeW
  rfl

/-- view_View_Free -/
def P_view_View_Free (a0 a1 : Value) (K : KV) : World → Prop := fun w =>
 nilW a0 (fun x1 w =>
 addW 2 x1 (fun x2 w =>
 load1W x2 (fun x3 w =>
 CP Tryz.prog Fn.levels_Levels_Free [x3, a1] (fun x4 w =>
 K (Value.tuple #[]) w) w) w) w) w

theorem Q_view_View_Free (a0 a1 : Value) (K : KV) : S_view_View_Free a0 a1 K = P_view_View_Free a0 a1 K := by
  unfold S_view_View_Free P_view_View_Free
  generalize @CP = y_CP
  generalize @addW = y_addW
  generalize @load1W = y_load1W
  generalize @nilW = y_nilW
  rfl

/-- draft_Draft_Place -/
def P_draft_Draft_Place (a0 a1 : Value) (K : KV) : World → Prop := fun w =>
 CP Tryz.prog Fn.draft_Draft_Read [a0, a1] (fun x1 w =>
 CP Tryz.prog Fn.draft_Draft_Name [a0, x1] (fun x2 w =>
 K x2 w) w) w

theorem Q_draft_Draft_Place (a0 a1 : Value) (K : KV) : S_draft_Draft_Place a0 a1 K = P_draft_Draft_Place a0 a1 K := by
  unfold S_draft_Draft_Place P_draft_Draft_Place
  generalize @CP = y_CP
  rfl

/-- draft_Draft_Fail -/
def P_draft_Draft_Fail (a0 a1 : Value) (K : KV) : World → Prop := fun w =>
 CP Tryz.prog Fn.draft_Draft_OK [a0] (fun x1 w =>
 joinW0 (fun  w =>
 K (Value.tuple #[]) w) (fun j1 w =>
 condP x1 (fun w => nilW a0 (fun x2 w =>
 addW 1 x2 (fun x3 w =>
 storeW 1 x3 a1 (fun _ w =>
 j1  w) w) w) w) (fun w => j1  w) w) w) w

theorem Q_draft_Draft_Fail (a0 a1 : Value) (K : KV) : S_draft_Draft_Fail a0 a1 K = P_draft_Draft_Fail a0 a1 K := by
  unfold S_draft_Draft_Fail P_draft_Draft_Fail
  generalize @CP = y_CP
  generalize @addW = y_addW
  generalize @condP = y_condP
  generalize @joinW0 = y_joinW0
  generalize @nilW = y_nilW
  generalize @storeW = y_storeW
  rfl

/-- table_chain -/
def P_table_chain (a0 a1 : Value) (K : KV) : World → Prop := fun w =>
 binIntW .mul a0 (Value.int .u64 11400714819323198485) (fun x1 w =>
 binIntW .shr x1 (Value.int .u64 60) (fun x2 w =>
 convW .i64 x2 (fun x3 w =>
 binIntW .sub a1 (Value.int .i64 1) (fun x4 w =>
 binIntW .and x3 x4 (fun x5 w =>
 K x5 w) w) w) w) w) w

theorem Q_table_chain (a0 a1 : Value) (K : KV) : S_table_chain a0 a1 K = P_table_chain a0 a1 K := by
  unfold S_table_chain P_table_chain
  generalize @binIntW = y_binIntW
  generalize @convW = y_convW
  rfl

/-- draft_Draft_Step -/
def P_draft_Draft_Step (a0 : Value) (K : KV) : World → Prop := fun w =>
 nilW a0 (fun x1 w =>
 addW 2 x1 (fun x2 w =>
 load1W x2 (fun x3 w =>
 binIntW .add x3 (Value.int .i64 1) (fun x4 w =>
 nilW a0 (fun x5 w =>
 addW 2 x5 (fun x6 w =>
 storeW 1 x6 x4 (fun _ w =>
 nilW a0 (fun x8 w =>
 addW 2 x8 (fun x9 w =>
 load1W x9 (fun x10 w =>
 binIntW .gtr x10 (Value.int .i64 2048) (fun x11 w =>
 joinW0 (fun  w =>
 CP Tryz.prog Fn.draft_Draft_OK [a0] (fun x12 w =>
 K x12 w) w) (fun j1 w =>
 condP x11 (fun w => CP Tryz.prog Fn.draft_Draft_Fail [a0, (Value.int .i64 2)] (fun x13 w =>
 j1  w) w) (fun w => j1  w) w) w) w) w) w) w) w) w) w) w) w) w) w

theorem Q_draft_Draft_Step (a0 : Value) (K : KV) : S_draft_Draft_Step a0 K = P_draft_Draft_Step a0 K := by
  unfold S_draft_Draft_Step P_draft_Draft_Step
  generalize @CP = y_CP
  generalize @addW = y_addW
  generalize @binIntW = y_binIntW
  generalize @condP = y_condP
  generalize @joinW0 = y_joinW0
  generalize @load1W = y_load1W
  generalize @nilW = y_nilW
  generalize @storeW = y_storeW
  rfl

/-- view_View_Write -/
def P_view_View_Write (a0 a1 a2 : Value) (K : KV) : World → Prop := fun w =>
 CP Tryz.prog Fn.view_View_is [a0, a1] (fun x1 w =>
 notW x1 (fun x2 w =>
 condP x2 (fun w => K (Value.int .i64 2) w) (fun w => nilW a0 (fun x3 w =>
 addW 2 x3 (fun x4 w =>
 load1W x4 (fun x5 w =>
 CP Tryz.prog Fn.levels_Levels_Put [x5, a1, a2] (fun x6 w =>
 K x6 w) w) w) w) w) w) w) w

theorem Q_view_View_Write (a0 a1 a2 : Value) (K : KV) : S_view_View_Write a0 a1 a2 K = P_view_View_Write a0 a1 a2 K := by
  unfold S_view_View_Write P_view_View_Write
  generalize @CP = y_CP
  generalize @addW = y_addW
  generalize @condP = y_condP
  generalize @load1W = y_load1W
  generalize @nilW = y_nilW
  generalize @notW = y_notW
  rfl

/-- table_table_grow_1 -/
def P_table_table_grow_1 (a0 a1 a2 a3 : Value) (K : KV) : World → Prop := fun w =>
 drewW (fun w => load1W a1 (fun x1 w =>
 nilW x1 (fun x2 w =>
 addW 0 x2 (fun x3 w =>
 load1W x3 (fun x4 w =>
 binIntW .add a0 (Value.int .i64 0) (fun x5 w =>
 load1W a2 (fun x6 w =>
 CP Tryz.prog Fn.draft_Draft_Read [x4, x5] (fun x7 w =>
 andP (fun w => andP (fun w => load1W a2 (fun v w => eqP v x6 w) w) (fun w => andP (fun w => trueP w) (fun w => andP (fun w => trueP w) (fun w => trueP w) w) w) w) (fun w =>
 CP Tryz.prog Fn.table_chain [x7, x6] (fun x8 w =>
 andP (fun w => andP (fun w => trueP w) (fun w => trueP w) w) (fun w =>
 drewW (fun w => load1W a1 (fun x9 w =>
 nilW x9 (fun x10 w =>
 addW 0 x10 (fun x11 w =>
 load1W x11 (fun x12 w =>
 binIntW .add a0 (Value.int .i64 2) (fun x13 w =>
 load1W a3 (fun x14 w =>
 idxW 1 x14 x8 (fun x15 w =>
 load1W x15 (fun x16 w =>
 CP Tryz.prog Fn.draft_Draft_Point [x12, x13, x16] (fun x17 w =>
 andP (fun w => andP (fun w => trueP w) (fun w => andP (fun w => trueP w) (fun w => andP (fun w => trueP w) (fun w => andP (fun w => trueP w) (fun w => trueP w) w) w) w) w) (fun w =>
 load1W a3 (fun x18 w =>
 idxW 1 x18 x8 (fun x19 w =>
 storeW 1 x19 a0 (fun _ w =>
 K (Value.tuple #[]) w) w) w) w) w) w) w) w) w) w) w) w) w) w) w) w) w) w) w) w) w) w) w) w) w) w

theorem Q_table_table_grow_1 (a0 a1 a2 a3 : Value) (K : KV) : S_table_table_grow_1 a0 a1 a2 a3 K = P_table_table_grow_1 a0 a1 a2 a3 K := by
  unfold S_table_table_grow_1 P_table_table_grow_1
  generalize @CP = y_CP
  generalize @addW = y_addW
  generalize @andP = y_andP
  generalize @binIntW = y_binIntW
  generalize @drewW = y_drewW
  generalize @eqP = y_eqP
  generalize @idxW = y_idxW
  generalize @load1W = y_load1W
  generalize @nilW = y_nilW
  generalize @storeW = y_storeW
  rfl

/-- arena_Alloc -/
def P_arena_Alloc (a0 a1 : Value) (K : KV) : World → Prop := fun w =>
 CP Tryz.prog Fn.arena_Class [a1] (fun x1 w =>
 binIntW .eql x1 (Value.int .i64 0) (fun x2 w =>
 condP x2 (fun w => K (Value.tuple #[(Value.int .i64 0), (Value.int .i64 3)]) w) (fun w => CP Tryz.prog Fn.arena_head [x1] (fun x3 w =>
 CP Tryz.prog Fn.view_View_Read [a0, x3] (fun x4 w =>
 extractW 0 x4 (fun x5 w =>
 extractW 1 x4 (fun x6 w =>
 binIntW .neq x6 (Value.int .i64 0) (fun x7 w =>
 condP x7 (fun w => K (Value.tuple #[(Value.int .i64 0), x6]) w) (fun w => binIntW .neq x5 (Value.int .u64 0) (fun x8 w =>
 condP x8 (fun w => CP Tryz.prog Fn.arena_again [a0, x1, x5] (fun x9 w =>
 extractW 0 x9 (fun x10 w =>
 extractW 1 x9 (fun x11 w =>
 K (Value.tuple #[x10, x11]) w) w) w) w) (fun w => CP Tryz.prog Fn.arena_grown [a0, x1] (fun x12 w =>
 extractW 0 x12 (fun x13 w =>
 extractW 1 x12 (fun x14 w =>
 K (Value.tuple #[x13, x14]) w) w) w) w) w) w) w) w) w) w) w) w) w) w) w

theorem Q_arena_Alloc (a0 a1 : Value) (K : KV) : S_arena_Alloc a0 a1 K = P_arena_Alloc a0 a1 K := by
  unfold S_arena_Alloc P_arena_Alloc
  generalize @CP = y_CP
  generalize @binIntW = y_binIntW
  generalize @condP = y_condP
  generalize @extractW = y_extractW
  rfl

/-- cmp_isNaN_uint64 -/
def P_cmp_isNaN_uint64 (a0 : Value) (K : KV) : World → Prop := fun w =>
 binIntW .neq a0 a0 (fun x1 w =>
 K x1 w) w

theorem Q_cmp_isNaN_uint64 (a0 : Value) (K : KV) : S_cmp_isNaN_uint64 a0 K = P_cmp_isNaN_uint64 a0 K := by
  unfold S_cmp_isNaN_uint64 P_cmp_isNaN_uint64
  generalize @binIntW = y_binIntW
  rfl

/-- ref7_Whole -/
def P_ref7_Whole (a0 a1 : Value) (K : KV) : World → Prop := fun w =>
 lenW a0 (fun x1 w =>
 CP Tryz.prog Fn.ref7_NewView [x1, a1] (fun x2 w =>
 loopW1 (Value.int .i64 1) (fun J1 x3 w =>
 nilW x2 (fun x4 w =>
 addW 0 x4 (fun x5 w =>
 load1W x5 (fun x6 w =>
 binIntW .lss x3 x6 (fun x7 w =>
 condP x7 (fun w => lenW a0 (fun x8 w =>
 binIntW .lss x3 x8 (fun x9 w =>
 joinW1 (fun x10 w =>
 nilW x2 (fun x11 w =>
 addW 1 x11 (fun x12 w =>
 load1W x12 (fun x13 w =>
 buildW [(Value.int .i64 0), (Value.int .u64 0)] [(0, 1, x3), (1, 1, x10)] (fun x14 w =>
 buildSliceW [(Value.int .i64 0), (Value.int .u64 0)] 1 [(0, 2, x14)] (fun x15 w =>
 appendW 2 16 x13 x15 (fun x16 w =>
 nilW x2 (fun x17 w =>
 addW 1 x17 (fun x18 w =>
 storeW 1 x18 x16 (fun _ w =>
 binIntW .add x3 (Value.int .i64 1) (fun x20 w =>
 J1 x20 w) w) w) w) w) w) w) w) w) w) w) (fun j1 w =>
 condP x9 (fun w => idxW 1 a0 x3 (fun x21 w =>
 load1W x21 (fun x22 w =>
 j1 x22 w) w) w) (fun w => j1 (Value.int .u64 0) w) w) w) w) w) (fun w => K x2 w) w) w) w) w) w) w) w) w

theorem Q_ref7_Whole (a0 a1 : Value) (K : KV) : S_ref7_Whole a0 a1 K = P_ref7_Whole a0 a1 K := by
  unfold S_ref7_Whole P_ref7_Whole
  generalize @CP = y_CP
  generalize @addW = y_addW
  generalize @appendW = y_appendW
  generalize @binIntW = y_binIntW
  generalize @buildSliceW = y_buildSliceW
  generalize @buildW = y_buildW
  generalize @condP = y_condP
  generalize @idxW = y_idxW
  generalize @joinW1 = y_joinW1
  generalize @lenW = y_lenW
  generalize @load1W = y_load1W
  generalize @loopW1 = y_loopW1
  generalize @nilW = y_nilW
  generalize @storeW = y_storeW
  rfl

/-- ref7_View_In -/
def P_ref7_View_In (a0 a1 : Value) (K : KV) : World → Prop := fun w =>
 binIntW .geq a1 (Value.int .i64 1) (fun x1 w =>
 gW x1 true (fun K w => K a1 w) (fun x2 w =>
 gW x1 true (fun K w => K a0 w) (fun x3 w =>
 gW x1 true (fun K w => nilW x3 K w) (fun x4 w =>
 gW x1 true (fun K w => addW 0 x4 K w) (fun x5 w =>
 gW x1 true (fun K w => load1W x5 K w) (fun x6 w =>
 gW x1 true (fun K w => binIntW .lss x2 x6 K w) (fun x7 w =>
 pickW x1 x7 (Value.bool false) (fun x8 w =>
 K x8 w) w) w) w) w) w) w) w) w

theorem Q_ref7_View_In (a0 a1 : Value) (K : KV) : S_ref7_View_In a0 a1 K = P_ref7_View_In a0 a1 K := by
  unfold S_ref7_View_In P_ref7_View_In
  generalize @addW = y_addW
  generalize @binIntW = y_binIntW
  generalize @gW = y_gW
  generalize @load1W = y_load1W
  generalize @nilW = y_nilW
  generalize @pickW = y_pickW
  rfl

/-- arena_asked -/
def P_arena_asked (a0 a1 : Value) (K : KV) : World → Prop := fun w =>
 binIntW .leq a1 (Value.int .i64 14) (fun x1 w =>
 gW x1 false (fun K w => K a1 w) (fun x2 w =>
 gW x1 false (fun K w => K a0 w) (fun x3 w =>
 gW x1 false (fun K w => CP Tryz.prog Fn.view_View_Size [x3] K w) (fun x4 w =>
 gW x1 false (fun K w => binIntW .geq x2 x4 K w) (fun x5 w =>
 pickW x1 (Value.bool true) x5 (fun x6 w =>
 condP x6 (fun w => K (Value.tuple #[(Value.int .i64 0), (Value.bool false), (Value.int .i64 2)]) w) (fun w => binIntW .sub a1 (Value.int .i64 1) (fun x7 w =>
 CP Tryz.prog Fn.view_View_Read [a0, x7] (fun x8 w =>
 extractW 0 x8 (fun x9 w =>
 extractW 1 x8 (fun x10 w =>
 binIntW .neq x10 (Value.int .i64 0) (fun x11 w =>
 condP x11 (fun w => K (Value.tuple #[(Value.int .i64 0), (Value.bool false), x10]) w) (fun w => CP Tryz.prog Fn.arena_header [x9] (fun x12 w =>
 extractW 0 x12 (fun x13 w =>
 extractW 1 x12 (fun x14 w =>
 binIntW .eql x13 (Value.int .i64 0) (fun x15 w =>
 condP x15 (fun w => K (Value.tuple #[(Value.int .i64 0), (Value.bool false), (Value.int .i64 2)]) w) (fun w => K (Value.tuple #[x13, x14, (Value.int .i64 0)]) w) w) w) w) w) w) w) w) w) w) w) w) w) w) w) w) w) w) w

theorem Q_arena_asked (a0 a1 : Value) (K : KV) : S_arena_asked a0 a1 K = P_arena_asked a0 a1 K := by
  unfold S_arena_asked P_arena_asked
  generalize @CP = y_CP
  generalize @binIntW = y_binIntW
  generalize @condP = y_condP
  generalize @extractW = y_extractW
  generalize @gW = y_gW
  generalize @pickW = y_pickW
  rfl

/-- table_Len_1 -/
def P_table_Len_1 (a0 a1 a2 : Value) (K : KV) : World → Prop := fun w =>
 load1W a1 (fun x1 w =>
 CP Tryz.prog Fn.table_open [a0, x1] (fun x2 w =>
 nilW x2 (fun x3 w =>
 addW 1 x3 (fun x4 w =>
 load1W x4 (fun x5 w =>
 binIntW .neq x5 (Value.int .i64 0) (fun x6 w =>
 joinW0 (fun  w =>
 K (Value.tuple #[]) w) (fun j1 w =>
 condP x6 (fun w => nilW x2 (fun x7 w =>
 addW 4 x7 (fun x8 w =>
 load1W x8 (fun x9 w =>
 convW .i64 x9 (fun x10 w =>
 storeW 1 a2 x10 (fun _ w =>
 j1  w) w) w) w) w) w) (fun w => j1  w) w) w) w) w) w) w) w) w

theorem Q_table_Len_1 (a0 a1 a2 : Value) (K : KV) : S_table_Len_1 a0 a1 a2 K = P_table_Len_1 a0 a1 a2 K := by
  unfold S_table_Len_1 P_table_Len_1
  generalize @CP = y_CP
  generalize @addW = y_addW
  generalize @binIntW = y_binIntW
  generalize @condP = y_condP
  generalize @convW = y_convW
  generalize @joinW0 = y_joinW0
  generalize @load1W = y_load1W
  generalize @nilW = y_nilW
  generalize @storeW = y_storeW
  rfl

/-- arena_Free -/
def P_arena_Free (a0 a1 : Value) (K : KV) : World → Prop := fun w =>
 CP Tryz.prog Fn.arena_asked [a0, a1] (fun x1 w =>
 extractW 0 x1 (fun x2 w =>
 extractW 1 x1 (fun x3 w =>
 extractW 2 x1 (fun x4 w =>
 binIntW .eql x4 (Value.int .i64 0) (fun x5 w =>
 gW x5 true (fun K w => K x3 w) (fun x6 w =>
 gW x5 true (fun K w => notW x6 K w) (fun x7 w =>
 pickW x5 x7 (Value.bool false) (fun x8 w =>
 joinW1 (fun x9 w =>
 binIntW .eql x9 (Value.int .i64 0) (fun x10 w =>
 joinW1 (fun x11 w =>
 binIntW .eql x11 (Value.int .i64 0) (fun x12 w =>
 joinW0 (fun  w =>
 K x11 w) (fun j3 w =>
 condP x12 (fun w => CP Tryz.prog Fn.view_View_Free [a0, a1] (fun x13 w =>
 j3  w) w) (fun w => j3  w) w) w) w) (fun j2 w =>
 condP x10 (fun w => binIntW .sub a1 (Value.int .i64 1) (fun x14 w =>
 convW .u64 x2 (fun x15 w =>
 buildW [(Value.int .i64 0), (Value.int .u64 0)] [(0, 1, x14), (1, 1, x15)] (fun x16 w =>
 buildSliceW [(Value.int .i64 0), (Value.int .u64 0)] 1 [(0, 2, x16)] (fun x17 w =>
 CP Tryz.prog Fn.view_View_Take [a0, x17] (fun x18 w =>
 j2 x18 w) w) w) w) w) w) (fun w => j2 x9 w) w) w) w) (fun j1 w =>
 condP x8 (fun w => j1 (Value.int .i64 2) w) (fun w => j1 x4 w) w) w) w) w) w) w) w) w) w) w

theorem Q_arena_Free (a0 a1 : Value) (K : KV) : S_arena_Free a0 a1 K = P_arena_Free a0 a1 K := by
  unfold S_arena_Free P_arena_Free
  generalize @CP = y_CP
  generalize @binIntW = y_binIntW
  generalize @buildSliceW = y_buildSliceW
  generalize @buildW = y_buildW
  generalize @condP = y_condP
  generalize @convW = y_convW
  generalize @extractW = y_extractW
  generalize @gW = y_gW
  generalize @joinW0 = y_joinW0
  generalize @joinW1 = y_joinW1
  generalize @notW = y_notW
  generalize @pickW = y_pickW
  rfl

/-- slices_Backward_levels_level_levels_level_1 -/
def P_slices_Backward_levels_level_levels_level_1 (a0 a1 : Value) (K : KV) : World → Prop := fun w =>
 load1W a1 (fun x1 w =>
 lenW x1 (fun x2 w =>
 binIntW .sub x2 (Value.int .i64 1) (fun x3 w =>
 loopW1 x3 (fun J1 x4 w =>
 binIntW .geq x4 (Value.int .i64 0) (fun x5 w =>
 condP x5 (fun w => load1W a1 (fun x6 w =>
 idxW 1 x6 x4 (fun x7 w =>
 load1W x7 (fun x8 w =>
 dynW Tryz.prog a0 [x4, x8] (fun x9 w =>
 notW x9 (fun x10 w =>
 condP x10 (fun w => K (Value.tuple #[]) w) (fun w => binIntW .sub x4 (Value.int .i64 1) (fun x11 w =>
 J1 x11 w) w) w) w) w) w) w) w) (fun w => K (Value.tuple #[]) w) w) w) w) w) w) w

theorem Q_slices_Backward_levels_level_levels_level_1 (a0 a1 : Value) (K : KV) : S_slices_Backward_levels_level_levels_level_1 a0 a1 K = P_slices_Backward_levels_level_levels_level_1 a0 a1 K := by
  unfold S_slices_Backward_levels_level_levels_level_1 P_slices_Backward_levels_level_levels_level_1
  generalize @binIntW = y_binIntW
  generalize @condP = y_condP
  generalize @dynW = y_dynW
  generalize @idxW = y_idxW
  generalize @lenW = y_lenW
  generalize @load1W = y_load1W
  generalize @loopW1 = y_loopW1
  generalize @notW = y_notW
  rfl

/-- writes_Writes_Put -/
def P_writes_Writes_Put (a0 a1 a2 : Value) (K : KV) : World → Prop := fun w =>
 binIntW .lss a1 (Value.int .i64 1) (fun x1 w =>
 gW x1 false (fun K w => K a1 w) (fun x2 w =>
 gW x1 false (fun K w => binIntW .geq x2 (Value.int .i64 256) K w) (fun x3 w =>
 pickW x1 (Value.bool true) x3 (fun x4 w =>
 condP x4 (fun w => K (Value.int .i64 2) w) (fun w => CP Tryz.prog Fn.writes_Writes_find [a0, a1] (fun x5 w =>
 binIntW .geq x5 (Value.int .i64 0) (fun x6 w =>
 condP x6 (fun w => nilW a0 (fun x7 w =>
 addW 1 x7 (fun x8 w =>
 load1W x8 (fun x9 w =>
 idxW 2 x9 x5 (fun x10 w =>
 addW 1 x10 (fun x11 w =>
 storeW 1 x11 a2 (fun _ w =>
 K (Value.int .i64 0) w) w) w) w) w) w) w) (fun w => drewW (fun w => nilW a0 (fun x13 w =>
 addW 1 x13 (fun x14 w =>
 load1W x14 (fun x15 w =>
 lenW x15 (fun x16 w =>
 nilW a0 (fun x17 w =>
 addW 0 x17 (fun x18 w =>
 load1W x18 (fun x19 w =>
 binIntW .geq x16 x19 (fun x20 w =>
 condP x20 (fun w => K (Value.int .i64 5) w) (fun w => nilW a0 (fun x21 w =>
 addW 1 x21 (fun x22 w =>
 load1W x22 (fun x23 w =>
 buildW [(Value.int .i64 0), (Value.int .u64 0)] [(0, 1, a1), (1, 1, a2)] (fun x24 w =>
 buildSliceW [(Value.int .i64 0), (Value.int .u64 0)] 1 [(0, 2, x24)] (fun x25 w =>
 appendW 2 16 x23 x25 (fun x26 w =>
 nilW a0 (fun x27 w =>
 addW 1 x27 (fun x28 w =>
 storeW 1 x28 x26 (fun _ w =>
 K (Value.int .i64 0) w) w) w) w) w) w) w) w) w) w) w) w) w) w) w) w) w) w) w) w) w) w) w) w) w) w) w) w

theorem Q_writes_Writes_Put (a0 a1 a2 : Value) (K : KV) : S_writes_Writes_Put a0 a1 a2 K = P_writes_Writes_Put a0 a1 a2 K := by
  unfold S_writes_Writes_Put P_writes_Writes_Put
  generalize @CP = y_CP
  generalize @addW = y_addW
  generalize @appendW = y_appendW
  generalize @binIntW = y_binIntW
  generalize @buildSliceW = y_buildSliceW
  generalize @buildW = y_buildW
  generalize @condP = y_condP
  generalize @drewW = y_drewW
  generalize @gW = y_gW
  generalize @idxW = y_idxW
  generalize @lenW = y_lenW
  generalize @load1W = y_load1W
  generalize @nilW = y_nilW
  generalize @pickW = y_pickW
  generalize @storeW = y_storeW
  rfl

/-- levels_Levels_Get -/
def P_levels_Levels_Get (a0 a1 : Value) (K : KV) : World → Prop := fun w =>
 boxW a1 (fun x1 w =>
 newW #[(Value.int .u64 0)] (fun x2 w =>
 newW #[(Value.bool false)] (fun x3 w =>
 nilW a0 (fun x4 w =>
 addW 1 x4 (fun x5 w =>
 load1W x5 (fun x6 w =>
 CP Tryz.prog Fn.slices_Backward_levels_level_levels_level [x6] (fun x7 w =>
 backW Fn.slices_Backward_levels_level_levels_level_1 x7 (fun J R x8 x9 w =>
 drewW (fun w => nilW x9 (fun x10 w =>
 addW 0 x10 (fun x11 w =>
 load1W x11 (fun x12 w =>
 load1W x1 (fun x13 w =>
 CP Tryz.prog Fn.writes_Writes_Get [x12, x13] (fun x14 w =>
 andP (fun w => andP (fun w => trueP w) (fun w => andP (fun w => trueP w) (fun w => trueP w) w) w) (fun w =>
 extractW 0 x14 (fun x15 w =>
 extractW 1 x14 (fun x16 w =>
 condP x16 (fun w => storeW 1 x2 x15 (fun _ w =>
 storeW 1 x3 (Value.bool true) (fun _ w =>
 R w) w) w) (fun w => J w) w) w) w) w) w) w) w) w) w) w) (fun K w =>
 storeW 1 x2 (Value.int .u64 0) (fun _ w =>
 storeW 1 x3 (Value.bool false) (fun _ w =>
 load1W x2 (fun x21 w =>
 load1W x3 (fun x22 w =>
 K (Value.tuple #[x21, x22]) w) w) w) w) w) (fun K w =>
 load1W x2 (fun x23 w =>
 load1W x3 (fun x24 w =>
 K (Value.tuple #[x23, x24]) w) w) w) K w) w) w) w) w) w) w) w

theorem Q_levels_Levels_Get (a0 a1 : Value) (K : KV) : S_levels_Levels_Get a0 a1 K = P_levels_Levels_Get a0 a1 K := by
  unfold S_levels_Levels_Get P_levels_Levels_Get
  generalize @CP = y_CP
  generalize @addW = y_addW
  generalize @andP = y_andP
  generalize @backW = y_backW
  generalize @boxW = y_boxW
  generalize @condP = y_condP
  generalize @drewW = y_drewW
  generalize @extractW = y_extractW
  generalize @load1W = y_load1W
  generalize @newW = y_newW
  generalize @nilW = y_nilW
  generalize @storeW = y_storeW
  rfl

/-- levels_Levels_Take -/
def P_levels_Levels_Take (a0 a1 : Value) (K : KV) : World → Prop := fun w =>
 CP Tryz.prog Fn.writes_New [(Value.int .i64 96)] (fun x1 w =>
 CP Tryz.prog Fn.levels_Levels_in [a0] (fun x2 w =>
 nilW x2 (fun x3 w =>
 addW 0 x3 (fun x4 w =>
 load1W x4 (fun x5 w =>
 CP Tryz.prog Fn.writes_Writes_All [x5] (fun x6 w =>
 CP Tryz.prog Fn.writes_Writes_Take [x1, x6] (fun x7 w =>
 lenW a1 (fun x8 w =>
 loopW1 (Value.int .i64 0) (fun J1 x9 w =>
 binIntW .lss x9 x8 (fun x10 w =>
 condP x10 (fun w => idxW 2 a1 x9 (fun x11 w =>
 loadNW 2 x11 (fun x12 w =>
 newW #[(Value.int .i64 0), (Value.int .u64 0)] (fun x13 w =>
 storeW 2 x13 x12 (fun _ w =>
 addW 0 x13 (fun x15 w =>
 load1W x15 (fun x16 w =>
 addW 1 x13 (fun x17 w =>
 load1W x17 (fun x18 w =>
 CP Tryz.prog Fn.levels_Levels_Put [a0, x16, x18] (fun x19 w =>
 binIntW .neq x19 (Value.int .i64 0) (fun x20 w =>
 condP x20 (fun w => CP Tryz.prog Fn.levels_Levels_in [a0] (fun x21 w =>
 nilW x21 (fun x22 w =>
 addW 0 x22 (fun x23 w =>
 storeW 1 x23 x1 (fun _ w =>
 K x19 w) w) w) w) w) (fun w => binIntW .add x9 (Value.int .i64 1) (fun x25 w =>
 J1 x25 w) w) w) w) w) w) w) w) w) w) w) w) w) (fun w => K (Value.int .i64 0) w) w) w) w) w) w) w) w) w) w) w) w

theorem Q_levels_Levels_Take (a0 a1 : Value) (K : KV) : S_levels_Levels_Take a0 a1 K = P_levels_Levels_Take a0 a1 K := by
  unfold S_levels_Levels_Take P_levels_Levels_Take
  generalize @CP = y_CP
  generalize @addW = y_addW
  generalize @binIntW = y_binIntW
  generalize @condP = y_condP
  generalize @idxW = y_idxW
  generalize @lenW = y_lenW
  generalize @load1W = y_load1W
  generalize @loadNW = y_loadNW
  generalize @loopW1 = y_loopW1
  generalize @newW = y_newW
  generalize @nilW = y_nilW
  generalize @storeW = y_storeW
  rfl

/-- levels_Levels_Free -/
def P_levels_Levels_Free (a0 a1 : Value) (K : KV) : World → Prop := fun w =>
 CP Tryz.prog Fn.levels_Levels_in [a0] (fun x1 w =>
 nilW x1 (fun x2 w =>
 addW 1 x2 (fun x3 w =>
 load1W x3 (fun x4 w =>
 buildSliceW [(Value.int .i64 0)] 1 [(0, 1, a1)] (fun x5 w =>
 appendW 1 8 x4 x5 (fun x6 w =>
 nilW x1 (fun x7 w =>
 addW 1 x7 (fun x8 w =>
 storeW 1 x8 x6 (fun _ w =>
 K (Value.tuple #[]) w) w) w) w) w) w) w) w) w) w

theorem Q_levels_Levels_Free (a0 a1 : Value) (K : KV) : S_levels_Levels_Free a0 a1 K = P_levels_Levels_Free a0 a1 K := by
  unfold S_levels_Levels_Free P_levels_Levels_Free
  generalize @CP = y_CP
  generalize @addW = y_addW
  generalize @appendW = y_appendW
  generalize @buildSliceW = y_buildSliceW
  generalize @load1W = y_load1W
  generalize @nilW = y_nilW
  generalize @storeW = y_storeW
  rfl

/-- draft_Draft_Name -/
def P_draft_Draft_Name (a0 a1 : Value) (K : KV) : World → Prop := fun w =>
 binIntW .geq a1 (Value.int .u64 2147483648) (fun x1 w =>
 condP x1 (fun w => CP Tryz.prog Fn.draft_Draft_Fail [a0, (Value.int .i64 2)] (fun x2 w =>
 K (Value.int .i64 0) w) w) (fun w => convW .i64 a1 (fun x3 w =>
 K x3 w) w) w) w

theorem Q_draft_Draft_Name (a0 a1 : Value) (K : KV) : S_draft_Draft_Name a0 a1 K = P_draft_Draft_Name a0 a1 K := by
  unfold S_draft_Draft_Name P_draft_Draft_Name
  generalize @CP = y_CP
  generalize @binIntW = y_binIntW
  generalize @condP = y_condP
  generalize @convW = y_convW
  rfl

/-- levels_Levels_Put -/
def P_levels_Levels_Put (a0 a1 a2 : Value) (K : KV) : World → Prop := fun w =>
 binIntW .lss a1 (Value.int .i64 1) (fun x1 w =>
 gW x1 false (fun K w => K a1 w) (fun x2 w =>
 gW x1 false (fun K w => binIntW .geq x2 (Value.int .i64 256) K w) (fun x3 w =>
 pickW x1 (Value.bool true) x3 (fun x4 w =>
 condP x4 (fun w => K (Value.int .i64 2) w) (fun w => CP Tryz.prog Fn.levels_Levels_in [a0] (fun x5 w =>
 nilW x5 (fun x6 w =>
 addW 0 x6 (fun x7 w =>
 load1W x7 (fun x8 w =>
 CP Tryz.prog Fn.writes_Writes_Get [x8, a1] (fun x9 w =>
 extractW 0 x9 (fun x10 w =>
 extractW 1 x9 (fun x11 w =>
 notW x11 (fun x12 w =>
 gW x12 true (fun K w => K a0 w) (fun x13 w =>
 gW x12 true (fun K w => CP Tryz.prog Fn.levels_Levels_Room [x13] K w) (fun x14 w =>
 gW x12 true (fun K w => binIntW .eql x14 (Value.int .i64 0) K w) (fun x15 w =>
 pickW x12 x15 (Value.bool false) (fun x16 w =>
 condP x16 (fun w => K (Value.int .i64 5) w) (fun w => CP Tryz.prog Fn.writes_Writes_Put [x8, a1, a2] (fun x17 w =>
 K x17 w) w) w) w) w) w) w) w) w) w) w) w) w) w) w) w) w) w) w) w

theorem Q_levels_Levels_Put (a0 a1 a2 : Value) (K : KV) : S_levels_Levels_Put a0 a1 a2 K = P_levels_Levels_Put a0 a1 a2 K := by
  unfold S_levels_Levels_Put P_levels_Levels_Put
  generalize @CP = y_CP
  generalize @addW = y_addW
  generalize @binIntW = y_binIntW
  generalize @condP = y_condP
  generalize @extractW = y_extractW
  generalize @gW = y_gW
  generalize @load1W = y_load1W
  generalize @nilW = y_nilW
  generalize @notW = y_notW
  generalize @pickW = y_pickW
  rfl

/-- arena_Class -/
def P_arena_Class (a0 : Value) (K : KV) : World → Prop := fun w =>
 binIntW .lss a0 (Value.int .i64 1) (fun x1 w =>
 condP x1 (fun w => K (Value.int .i64 0) w) (fun w => loopW1 (Value.int .i64 1) (fun J1 x2 w =>
 binIntW .leq x2 (Value.int .i64 4) (fun x3 w =>
 condP x3 (fun w => CP Tryz.prog Fn.arena_Size [x2] (fun x4 w =>
 binIntW .geq x4 a0 (fun x5 w =>
 condP x5 (fun w => K x2 w) (fun w => binIntW .add x2 (Value.int .i64 1) (fun x6 w =>
 J1 x6 w) w) w) w) w) (fun w => K (Value.int .i64 0) w) w) w) w) w) w

theorem Q_arena_Class (a0 : Value) (K : KV) : S_arena_Class a0 K = P_arena_Class a0 K := by
  unfold S_arena_Class P_arena_Class
  generalize @CP = y_CP
  generalize @binIntW = y_binIntW
  generalize @condP = y_condP
  generalize @loopW1 = y_loopW1
  rfl

/-- arena_again -/
def P_arena_again (a0 a1 a2 : Value) (K : KV) : World → Prop := fun w =>
 binIntW .geq a2 (Value.int .u64 2147483648) (fun x1 w =>
 condP x1 (fun w => K (Value.tuple #[(Value.int .i64 0), (Value.int .i64 2)]) w) (fun w => convW .i64 a2 (fun x2 w =>
 CP Tryz.prog Fn.view_View_Read [a0, x2] (fun x3 w =>
 extractW 0 x3 (fun x4 w =>
 extractW 1 x3 (fun x5 w =>
 binIntW .eql x5 (Value.int .i64 0) (fun x6 w =>
 joinW1 (fun x7 w =>
 binIntW .neq x7 (Value.int .i64 0) (fun x8 w =>
 condP x8 (fun w => K (Value.tuple #[(Value.int .i64 0), x7]) w) (fun w => K (Value.tuple #[x2, (Value.int .i64 0)]) w) w) w) (fun j1 w =>
 condP x6 (fun w => CP Tryz.prog Fn.arena_head [a1] (fun x9 w =>
 buildW [(Value.int .i64 0), (Value.int .u64 0)] [(0, 1, x9), (1, 1, x4)] (fun x10 w =>
 binIntW .sub x2 (Value.int .i64 1) (fun x11 w =>
 binIntW .add a1 (Value.int .i64 8) (fun x12 w =>
 convW .u64 x12 (fun x13 w =>
 buildW [(Value.int .i64 0), (Value.int .u64 0)] [(0, 1, x11), (1, 1, x13)] (fun x14 w =>
 buildSliceW [(Value.int .i64 0), (Value.int .u64 0)] 2 [(0, 2, x10), (2, 2, x14)] (fun x15 w =>
 CP Tryz.prog Fn.view_View_Take [a0, x15] (fun x16 w =>
 j1 x16 w) w) w) w) w) w) w) w) w) (fun w => j1 x5 w) w) w) w) w) w) w) w) w) w

theorem Q_arena_again (a0 a1 a2 : Value) (K : KV) : S_arena_again a0 a1 a2 K = P_arena_again a0 a1 a2 K := by
  unfold S_arena_again P_arena_again
  generalize @CP = y_CP
  generalize @binIntW = y_binIntW
  generalize @buildSliceW = y_buildSliceW
  generalize @buildW = y_buildW
  generalize @condP = y_condP
  generalize @convW = y_convW
  generalize @extractW = y_extractW
  generalize @joinW1 = y_joinW1
  rfl

/-- arena_grown -/
def P_arena_grown (a0 a1 : Value) (K : KV) : World → Prop := fun w =>
 CP Tryz.prog Fn.view_View_Read [a0, (Value.int .i64 5)] (fun x1 w =>
 extractW 0 x1 (fun x2 w =>
 extractW 1 x1 (fun x3 w =>
 binIntW .neq x3 (Value.int .i64 0) (fun x4 w =>
 condP x4 (fun w => K (Value.tuple #[(Value.int .i64 0), x3]) w) (fun w => binIntW .lss x2 (Value.int .u64 14) (fun x5 w =>
 gW x5 false (fun K w => K x2 w) (fun x6 w =>
 gW x5 false (fun K w => binIntW .geq x6 (Value.int .u64 2147483648) K w) (fun x7 w =>
 pickW x5 (Value.bool true) x7 (fun x8 w =>
 gW x8 false (fun K w => K x2 w) (fun x9 w =>
 gW x8 false (fun K w => convW .i64 x9 K w) (fun x10 w =>
 gW x8 false (fun K w => binIntW .add x10 (Value.int .i64 1) K w) (fun x11 w =>
 gW x8 false (fun K w => K a1 w) (fun x12 w =>
 gW x8 false (fun K w => CP Tryz.prog Fn.arena_Size [x12] K w) (fun x13 w =>
 gW x8 false (fun K w => binIntW .add x11 x13 K w) (fun x14 w =>
 gW x8 false (fun K w => K a0 w) (fun x15 w =>
 gW x8 false (fun K w => CP Tryz.prog Fn.view_View_Size [x15] K w) (fun x16 w =>
 gW x8 false (fun K w => binIntW .gtr x14 x16 K w) (fun x17 w =>
 pickW x8 (Value.bool true) x17 (fun x18 w =>
 condP x18 (fun w => K (Value.tuple #[(Value.int .i64 0), (Value.int .i64 4)]) w) (fun w => convW .i64 x2 (fun x19 w =>
 binIntW .add x19 (Value.int .i64 1) (fun x20 w =>
 CP Tryz.prog Fn.arena_Size [a1] (fun x21 w =>
 binIntW .add x20 x21 (fun x22 w =>
 convW .u64 x22 (fun x23 w =>
 buildW [(Value.int .i64 0), (Value.int .u64 0)] [(0, 1, (Value.int .i64 5)), (1, 1, x23)] (fun x24 w =>
 binIntW .add a1 (Value.int .i64 8) (fun x25 w =>
 convW .u64 x25 (fun x26 w =>
 buildW [(Value.int .i64 0), (Value.int .u64 0)] [(0, 1, x19), (1, 1, x26)] (fun x27 w =>
 buildSliceW [(Value.int .i64 0), (Value.int .u64 0)] 2 [(0, 2, x24), (2, 2, x27)] (fun x28 w =>
 CP Tryz.prog Fn.view_View_Take [a0, x28] (fun x29 w =>
 binIntW .neq x29 (Value.int .i64 0) (fun x30 w =>
 condP x30 (fun w => K (Value.tuple #[(Value.int .i64 0), x29]) w) (fun w => binIntW .add x19 (Value.int .i64 1) (fun x31 w =>
 K (Value.tuple #[x31, (Value.int .i64 0)]) w) w) w) w) w) w) w) w) w) w) w) w) w) w) w) w) w) w) w) w) w) w) w) w) w) w) w) w) w) w) w) w) w) w) w

theorem Q_arena_grown (a0 a1 : Value) (K : KV) : S_arena_grown a0 a1 K = P_arena_grown a0 a1 K := by
  unfold S_arena_grown P_arena_grown
  generalize @CP = y_CP
  generalize @binIntW = y_binIntW
  generalize @buildSliceW = y_buildSliceW
  generalize @buildW = y_buildW
  generalize @condP = y_condP
  generalize @convW = y_convW
  generalize @extractW = y_extractW
  generalize @gW = y_gW
  generalize @pickW = y_pickW
  rfl

/-- ref7_NewView -/
def P_ref7_NewView (a0 a1 : Value) (K : KV) : World → Prop := fun w =>
 CP Tryz.prog Fn.ref1_Held [a0, (Value.int .i64 32), (Value.int .i64 256)] (fun x1 w =>
 CP Tryz.prog Fn.ref7_NewLevels [a1] (fun x2 w =>
 buildW [(Value.int .i64 0), (Value.slice none 0 0), (Value.pointer none), (Value.int .i64 0)] [(0, 1, x1), (2, 1, x2)] (fun x3 w =>
 boxW x3 (fun x4 w =>
 K x4 w) w) w) w) w

theorem Q_ref7_NewView (a0 a1 : Value) (K : KV) : S_ref7_NewView a0 a1 K = P_ref7_NewView a0 a1 K := by
  unfold S_ref7_NewView P_ref7_NewView
  generalize @CP = y_CP
  generalize @boxW = y_boxW
  generalize @buildW = y_buildW
  rfl

/-- writes_Writes_find -/
def P_writes_Writes_find (a0 a1 : Value) (K : KV) : World → Prop := fun w =>
 boxW a1 (fun x1 w =>
 nilW a0 (fun x2 w =>
 addW 1 x2 (fun x3 w =>
 load1W x3 (fun x4 w =>
 CP Tryz.prog Fn.slices_IndexFunc_api_Cell_api_Cell [x4, (Value.func (.func Fn.writes_Writes_find_1) #[] #[x1])] (fun x5 w =>
 K x5 w) w) w) w) w) w

theorem Q_writes_Writes_find (a0 a1 : Value) (K : KV) : S_writes_Writes_find a0 a1 K = P_writes_Writes_find a0 a1 K := by
  unfold S_writes_Writes_find P_writes_Writes_find
  generalize @CP = y_CP
  generalize @addW = y_addW
  generalize @boxW = y_boxW
  generalize @load1W = y_load1W
  generalize @nilW = y_nilW
  rfl

/-- writes_Writes_Get -/
def P_writes_Writes_Get (a0 a1 : Value) (K : KV) : World → Prop := fun w =>
 CP Tryz.prog Fn.writes_Writes_find [a0, a1] (fun x1 w =>
 binIntW .geq x1 (Value.int .i64 0) (fun x2 w =>
 condP x2 (fun w => nilW a0 (fun x3 w =>
 addW 1 x3 (fun x4 w =>
 load1W x4 (fun x5 w =>
 idxW 2 x5 x1 (fun x6 w =>
 addW 1 x6 (fun x7 w =>
 load1W x7 (fun x8 w =>
 K (Value.tuple #[x8, (Value.bool true)]) w) w) w) w) w) w) w) (fun w => K (Value.tuple #[(Value.int .u64 0), (Value.bool false)]) w) w) w) w

theorem Q_writes_Writes_Get (a0 a1 : Value) (K : KV) : S_writes_Writes_Get a0 a1 K = P_writes_Writes_Get a0 a1 K := by
  unfold S_writes_Writes_Get P_writes_Writes_Get
  generalize @CP = y_CP
  generalize @addW = y_addW
  generalize @binIntW = y_binIntW
  generalize @condP = y_condP
  generalize @idxW = y_idxW
  generalize @load1W = y_load1W
  generalize @nilW = y_nilW
  rfl

/-- levels_Levels_in -/
def P_levels_Levels_in (a0 : Value) (K : KV) : World → Prop := fun w =>
 drewW (fun w => nilW a0 (fun x1 w =>
 addW 1 x1 (fun x2 w =>
 load1W x2 (fun x3 w =>
 nilW a0 (fun x4 w =>
 addW 1 x4 (fun x5 w =>
 load1W x5 (fun x6 w =>
 lenW x6 (fun x7 w =>
 binIntW .sub x7 (Value.int .i64 1) (fun x8 w =>
 idxW 1 x3 x8 (fun x9 w =>
 load1W x9 (fun x10 w =>
 K x10 w) w) w) w) w) w) w) w) w) w) w) w

theorem Q_levels_Levels_in (a0 : Value) (K : KV) : S_levels_Levels_in a0 K = P_levels_Levels_in a0 K := by
  unfold S_levels_Levels_in P_levels_Levels_in
  generalize @addW = y_addW
  generalize @binIntW = y_binIntW
  generalize @drewW = y_drewW
  generalize @idxW = y_idxW
  generalize @lenW = y_lenW
  generalize @load1W = y_load1W
  generalize @nilW = y_nilW
  rfl

/-- levels_Levels_Room -/
def P_levels_Levels_Room (a0 : Value) (K : KV) : World → Prop := fun w =>
 nilW a0 (fun x1 w =>
 addW 0 x1 (fun x2 w =>
 load1W x2 (fun x3 w =>
 nilW a0 (fun x4 w =>
 addW 1 x4 (fun x5 w =>
 load1W x5 (fun x6 w =>
 lenW x6 (fun x7 w =>
 loopW2 x3 (Value.int .i64 0) (fun J1 x8 x9 w =>
 binIntW .lss x9 x7 (fun x10 w =>
 condP x10 (fun w => idxW 1 x6 x9 (fun x11 w =>
 load1W x11 (fun x12 w =>
 nilW x12 (fun x13 w =>
 addW 0 x13 (fun x14 w =>
 load1W x14 (fun x15 w =>
 CP Tryz.prog Fn.writes_Writes_Len [x15] (fun x16 w =>
 binIntW .sub x8 x16 (fun x17 w =>
 binIntW .add x9 (Value.int .i64 1) (fun x18 w =>
 J1 x17 x18 w) w) w) w) w) w) w) w) w) (fun w => K x8 w) w) w) w) w) w) w) w) w) w) w

theorem Q_levels_Levels_Room (a0 : Value) (K : KV) : S_levels_Levels_Room a0 K = P_levels_Levels_Room a0 K := by
  unfold S_levels_Levels_Room P_levels_Levels_Room
  generalize @CP = y_CP
  generalize @addW = y_addW
  generalize @binIntW = y_binIntW
  generalize @condP = y_condP
  generalize @idxW = y_idxW
  generalize @lenW = y_lenW
  generalize @load1W = y_load1W
  generalize @loopW2 = y_loopW2
  generalize @nilW = y_nilW
  rfl

/-- ref7_NewLevels -/
def P_ref7_NewLevels (a0 : Value) (K : KV) : World → Prop := fun w =>
 drewW (fun w => andP (fun w => CP Tryz.prog Fn.ref1_Held [a0, (Value.int .i64 0), (Value.int .i64 96)] (fun x1 w =>
 andP (fun w => trueP w) (fun w =>
 makeSliceW 48 [(Value.slice none 0 0), (Value.slice none 0 0)] (Value.int .i64 1) (Value.int .i64 1) (fun x2 w =>
 andP (fun w => trueP w) (fun w =>
 buildW [(Value.int .i64 0), (Value.slice none 0 0)] [(0, 1, x1), (1, 1, x2)] (fun x3 w =>
 boxW x3 (fun x4 w =>
 andP (fun w => trueP w) (fun w =>
 K x4 w) w) w) w) w) w) w) w) (fun w => makeSliceW 48 [(Value.slice none 0 0), (Value.slice none 0 0)] (Value.int .i64 1) (Value.int .i64 1) (fun x5 w =>
 andP (fun w => trueP w) (fun w =>
 CP Tryz.prog Fn.ref1_Held [a0, (Value.int .i64 0), (Value.int .i64 96)] (fun x6 w =>
 andP (fun w => trueP w) (fun w =>
 buildW [(Value.int .i64 0), (Value.slice none 0 0)] [(0, 1, x6), (1, 1, x5)] (fun x7 w =>
 boxW x7 (fun x8 w =>
 andP (fun w => trueP w) (fun w =>
 K x8 w) w) w) w) w) w) w) w) w) w

theorem Q_ref7_NewLevels (a0 : Value) (K : KV) : S_ref7_NewLevels a0 K = P_ref7_NewLevels a0 K := by
  unfold S_ref7_NewLevels P_ref7_NewLevels
  generalize @CP = y_CP
  generalize @andP = y_andP
  generalize @boxW = y_boxW
  generalize @buildW = y_buildW
  generalize @drewW = y_drewW
  generalize @makeSliceW = y_makeSliceW
  rfl

/-- slices_IndexFunc_api_Cell_api_Cell -/
def P_slices_IndexFunc_api_Cell_api_Cell (a0 a1 : Value) (K : KV) : World → Prop := fun w =>
 lenW a0 (fun x1 w =>
 loopW1 (Value.int .i64 0) (fun J1 x2 w =>
 binIntW .lss x2 x1 (fun x3 w =>
 condP x3 (fun w => idxW 2 a0 x2 (fun x4 w =>
 loadNW 2 x4 (fun x5 w =>
 dynW Tryz.prog a1 [x5] (fun x6 w =>
 condP x6 (fun w => K x2 w) (fun w => binIntW .add x2 (Value.int .i64 1) (fun x7 w =>
 J1 x7 w) w) w) w) w) w) (fun w => K (Value.int .i64 (-1)) w) w) w) w) w

theorem Q_slices_IndexFunc_api_Cell_api_Cell (a0 a1 : Value) (K : KV) : S_slices_IndexFunc_api_Cell_api_Cell a0 a1 K = P_slices_IndexFunc_api_Cell_api_Cell a0 a1 K := by
  unfold S_slices_IndexFunc_api_Cell_api_Cell P_slices_IndexFunc_api_Cell_api_Cell
  generalize @binIntW = y_binIntW
  generalize @condP = y_condP
  generalize @dynW = y_dynW
  generalize @idxW = y_idxW
  generalize @lenW = y_lenW
  generalize @loadNW = y_loadNW
  generalize @loopW1 = y_loopW1
  rfl

/-- writes_Writes_find_1 -/
def P_writes_Writes_find_1 (a0 a1 : Value) (K : KV) : World → Prop := fun w =>
 boxW a0 (fun x1 w =>
 addW 0 x1 (fun x2 w =>
 load1W x2 (fun x3 w =>
 load1W a1 (fun x4 w =>
 binIntW .eql x3 x4 (fun x5 w =>
 K x5 w) w) w) w) w) w

theorem Q_writes_Writes_find_1 (a0 a1 : Value) (K : KV) : S_writes_Writes_find_1 a0 a1 K = P_writes_Writes_find_1 a0 a1 K := by
  unfold S_writes_Writes_find_1 P_writes_Writes_find_1
  generalize @addW = y_addW
  generalize @binIntW = y_binIntW
  generalize @boxW = y_boxW
  generalize @load1W = y_load1W
  rfl

/-- writes_Writes_Len -/
def P_writes_Writes_Len (a0 : Value) (K : KV) : World → Prop := fun w =>
 nilW a0 (fun x1 w =>
 addW 1 x1 (fun x2 w =>
 load1W x2 (fun x3 w =>
 lenW x3 (fun x4 w =>
 K x4 w) w) w) w) w

theorem Q_writes_Writes_Len (a0 : Value) (K : KV) : S_writes_Writes_Len a0 K = P_writes_Writes_Len a0 K := by
  unfold S_writes_Writes_Len P_writes_Writes_Len
  generalize @addW = y_addW
  generalize @lenW = y_lenW
  generalize @load1W = y_load1W
  generalize @nilW = y_nilW
  rfl

end Go.Proofs.YtokbiojkpldfeaaGreat.S
