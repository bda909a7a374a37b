import Derived.Test.YtoealglbimbbmaaGreatDoorSForm
namespace Go.Proofs.YtoealglbimbbmaaGreatDoor.S
open Go Go.Proofs
set_option linter.unusedVariables false
set_option maxRecDepth 100000
def nq (a0 a1 a2:Value)(K:KV):World→Prop:=fun w =>
 eI #[(Value.slice none 0 0)] (fun x1 w =>
 lQ (fun x2 x3 w =>
 iX x2 x3 (fun J1 x4 x5 w =>
 bp x5 (fun x6 w =>
 aa .gtr x6 (Value.int .i64 0) (fun x7 w =>
 ae x7 (fun w=>CP Tryz.prog Vd [x4,x5] (fun x8 w =>
 ao 0 x8 (fun x9 w =>
 ao 1 x8 (fun x10 w =>
 J1 x9 x10 w) w) w) w) (fun w=>bp x4 (fun x11 w =>
 aa .eql x11 (Value.int .i64 0) (fun x12 w =>
 cu (fun x13 w =>
 ap [(Value.slice none 0 0)] [(0,1,x13)] (fun x14 w =>
 ag 1 x1 x14 (fun _ w =>
 aj 1 x1 (fun x16 w =>
 K x16 w) w) w) w) (fun j2 w =>
 ae x12 (fun w=>ap [(Value.int .i64 0),(Value.int .i64 0),(Value.int .i64 0),(Value.int .i64 0),(Value.int .u64 0)] [(0,1,(Value.int .i64 1)),(1,1,(Value.int .i64 0)),(4,1,(Value.int .u64 1))] (fun x17 w =>
 ak [(Value.int .i64 0),(Value.int .i64 0),(Value.int .i64 0),(Value.int .i64 0),(Value.int .u64 0)] 1 [(0,5,x17)] (fun x18 w =>
 av 5 40 x4 x18 (fun x19 w =>
 j2 x19 w) w) w) w) (fun w=>j2 x4 w) w) w) w) w) w) w) w) w) (fun j1 w =>
 Ef (Value.slice none 0 0) (Value.slice none 0 0) (Value.int .i64 0) (fun J2 x20 x21 x22 w =>
 bp a0 (fun x23 w =>
 aa .lss x22 x23 (fun x24 w =>
 ae x24 (fun w=>bt 5 a0 x22 (fun x25 w =>
 aj 5 x25 (fun x26 w =>
 eI #[(Value.int .i64 0),(Value.int .i64 0),(Value.int .i64 0),(Value.int .i64 0),(Value.int .u64 0)] (fun x27 w =>
 ag 5 x27 x26 (fun _ w =>
 bp x21 (fun x29 w =>
 bp x20 (fun x30 w =>
 aa .mul (Value.int .i64 2) x29 (fun x31 w =>
 aa .add x30 x31 (fun x32 w =>
 aa .add x32 (Value.int .i64 5) (fun x33 w =>
 aa .gtr x33 a1 (fun x34 w =>
 ae x34 (fun w=>j1 x20 x21 w) (fun w=>ad 0 x27 (fun x35 w =>
 ab x35 (fun x36 w =>
 CP Tryz.prog dg [x36,(Value.int .i64 0),(Value.int .i64 40)] (fun x37 w =>
 aa .eql x37 (Value.int .i64 20) (fun x38 w =>
 gW x38 true (fun K w=>K x29 w) (fun x39 w =>
 gW x38 true (fun K w=>aa .lss x39 (Value.int .i64 5) K w) (fun x40 w =>
 bd x38 x40 (Value.bool false) (fun x41 w =>
 lQ (fun x42 x43 w =>
 aa .add x22 (Value.int .i64 1) (fun x44 w =>
 J2 x42 x43 x44 w) w) (fun j3 w =>
 ae x41 (fun w=>ap [(Value.int .i64 0),(Value.int .i64 0),(Value.int .i64 0),(Value.int .i64 0),(Value.int .u64 0)] [(0,1,(Value.int .i64 14))] (fun x45 w =>
 ak [(Value.int .i64 0),(Value.int .i64 0),(Value.int .i64 0),(Value.int .i64 0),(Value.int .u64 0)] 1 [(0,5,x45)] (fun x46 w =>
 av 5 40 x20 x46 (fun x47 w =>
 ak [(Value.int .i64 0)] 1 [(0,1,(Value.int .i64 14))] (fun x48 w =>
 av 1 8 x21 x48 (fun x49 w =>
 j3 x47 x49 w) w) w) w) w) w) (fun w=>aa .eql x37 (Value.int .i64 21) (fun x50 w =>
 gW x50 false (fun K w=>K x37 w) (fun x51 w =>
 gW x50 false (fun K w=>aa .eql x51 (Value.int .i64 22) K w) (fun x52 w =>
 bd x50 (Value.bool true) x52 (fun x53 w =>
 gW x53 true (fun K w=>K x29 w) (fun x54 w =>
 gW x53 true (fun K w=>aa .lss x54 (Value.int .i64 5) K w) (fun x55 w =>
 bd x53 x55 (Value.bool false) (fun x56 w =>
 lQ (fun x57 x58 w =>
 j3 x57 x58 w) (fun j4 w =>
 ae x56 (fun w=>ap [(Value.int .i64 0),(Value.int .i64 0),(Value.int .i64 0),(Value.int .i64 0),(Value.int .u64 0)] [(0,1,(Value.int .i64 17))] (fun x59 w =>
 ak [(Value.int .i64 0),(Value.int .i64 0),(Value.int .i64 0),(Value.int .i64 0),(Value.int .u64 0)] 1 [(0,5,x59)] (fun x60 w =>
 av 5 40 x20 x60 (fun x61 w =>
 ak [(Value.int .i64 0)] 1 [(0,1,(Value.int .i64 17))] (fun x62 w =>
 av 1 8 x21 x62 (fun x63 w =>
 j4 x61 x63 w) w) w) w) w) w) (fun w=>aa .eql x37 (Value.int .i64 23) (fun x64 w =>
 gW x64 false (fun K w=>K x37 w) (fun x65 w =>
 gW x64 false (fun K w=>aa .eql x65 (Value.int .i64 24) K w) (fun x66 w =>
 bd x64 (Value.bool true) x66 (fun x67 w =>
 gW x67 true (fun K w=>K x29 w) (fun x68 w =>
 gW x67 true (fun K w=>aa .gtr x68 (Value.int .i64 0) K w) (fun x69 w =>
 bd x67 x69 (Value.bool false) (fun x70 w =>
 lQ (fun x71 x72 w =>
 j4 x71 x72 w) (fun j5 w =>
 ae x70 (fun w=>CP Tryz.prog Vd [x20,x21] (fun x73 w =>
 ao 0 x73 (fun x74 w =>
 ao 1 x73 (fun x75 w =>
 j5 x74 x75 w) w) w) w) (fun w=>aa .eql x37 (Value.int .i64 25) (fun x76 w =>
 gW x76 true (fun K w=>K x29 w) (fun x77 w =>
 gW x76 true (fun K w=>aa .gtr x77 (Value.int .i64 0) K w) (fun x78 w =>
 bd x76 x78 (Value.bool false) (fun x79 w =>
 gW x79 true (fun K w=>K x21 w) (fun x80 w =>
 gW x79 true (fun K w=>K x29 w) (fun x81 w =>
 gW x79 true (fun K w=>aa .sub x81 (Value.int .i64 1) K w) (fun x82 w =>
 gW x79 true (fun K w=>bt 1 x80 x82 K w) (fun x83 w =>
 gW x79 true (fun K w=>ab x83 K w) (fun x84 w =>
 gW x79 true (fun K w=>aa .eql x84 (Value.int .i64 14) K w) (fun x85 w =>
 bd x79 x85 (Value.bool false) (fun x86 w =>
 cu (fun x87 w =>
 j5 x87 x21 w) (fun j6 w =>
 ae x86 (fun w=>ap [(Value.int .i64 0),(Value.int .i64 0),(Value.int .i64 0),(Value.int .i64 0),(Value.int .u64 0)] [(0,1,(Value.int .i64 16))] (fun x88 w =>
 ak [(Value.int .i64 0),(Value.int .i64 0),(Value.int .i64 0),(Value.int .i64 0),(Value.int .u64 0)] 1 [(0,5,x88)] (fun x89 w =>
 av 5 40 x20 x89 (fun x90 w =>
 j6 x90 w) w) w) w) (fun w=>aa .eql x37 (Value.int .i64 26) (fun x91 w =>
 gW x91 false (fun K w=>K x37 w) (fun x92 w =>
 gW x91 false (fun K w=>aa .eql x92 (Value.int .i64 27) K w) (fun x93 w =>
 bd x91 (Value.bool true) x93 (fun x94 w =>
 gW x94 true (fun K w=>K a2 w) (fun x95 w =>
 gW x94 true (fun K w=>ga x95 K w) (fun x96 w =>
 bd x94 x96 (Value.bool false) (fun x97 w =>
 gW x97 true (fun K w=>K x29 w) (fun x98 w =>
 gW x97 true (fun K w=>aa .gtr x98 (Value.int .i64 0) K w) (fun x99 w =>
 bd x97 x99 (Value.bool false) (fun x100 w =>
 cu (fun x101 w =>
 j6 x101 w) (fun j7 w =>
 ae x100 (fun w=>ad 1 x27 (fun x102 w =>
 ab x102 (fun x103 w =>
 CP Tryz.prog ge [x103] (fun x104 w =>
 bp x20 (fun x105 w =>
 aa .add x105 (Value.int .i64 2) (fun x106 w =>
 ap [(Value.int .i64 0),(Value.int .i64 0),(Value.int .i64 0),(Value.int .i64 0),(Value.int .u64 0)] [(0,1,(Value.int .i64 13)),(1,1,x104),(3,1,x106)] (fun x107 w =>
 ap [(Value.int .i64 0),(Value.int .i64 0),(Value.int .i64 0),(Value.int .i64 0),(Value.int .u64 0)] [(0,1,(Value.int .i64 20))] (fun x108 w =>
 ak [(Value.int .i64 0),(Value.int .i64 0),(Value.int .i64 0),(Value.int .i64 0),(Value.int .u64 0)] 2 [(0,5,x107),(5,5,x108)] (fun x109 w =>
 av 5 40 x20 x109 (fun x110 w =>
 j7 x110 w) w) w) w) w) w) w) w) w) w) (fun w=>aa .eql x37 (Value.int .i64 28) (fun x111 w =>
 gW x111 true (fun K w=>K a2 w) (fun x112 w =>
 gW x111 true (fun K w=>ga x112 K w) (fun x113 w =>
 bd x111 x113 (Value.bool false) (fun x114 w =>
 cu (fun x115 w =>
 j7 x115 w) (fun j8 w =>
 ae x114 (fun w=>ad 1 x27 (fun x116 w =>
 ab x116 (fun x117 w =>
 CP Tryz.prog ge [x117] (fun x118 w =>
 bp x20 (fun x119 w =>
 aa .add x119 (Value.int .i64 2) (fun x120 w =>
 ap [(Value.int .i64 0),(Value.int .i64 0),(Value.int .i64 0),(Value.int .i64 0),(Value.int .u64 0)] [(0,1,(Value.int .i64 13)),(1,1,x118),(3,1,x120)] (fun x121 w =>
 ap [(Value.int .i64 0),(Value.int .i64 0),(Value.int .i64 0),(Value.int .i64 0),(Value.int .u64 0)] [(0,1,(Value.int .i64 20))] (fun x122 w =>
 ak [(Value.int .i64 0),(Value.int .i64 0),(Value.int .i64 0),(Value.int .i64 0),(Value.int .u64 0)] 2 [(0,5,x121),(5,5,x122)] (fun x123 w =>
 av 5 40 x20 x123 (fun x124 w =>
 j8 x124 w) w) w) w) w) w) w) w) w) w) (fun w=>aa .eql x37 (Value.int .i64 29) (fun x125 w =>
 gW x125 true (fun K w=>K a2 w) (fun x126 w =>
 gW x125 true (fun K w=>ga x126 K w) (fun x127 w =>
 bd x125 x127 (Value.bool false) (fun x128 w =>
 cu (fun x129 w =>
 j8 x129 w) (fun j9 w =>
 ae x128 (fun w=>ad 1 x27 (fun x130 w =>
 ab x130 (fun x131 w =>
 CP Tryz.prog ge [x131] (fun x132 w =>
 bp x20 (fun x133 w =>
 aa .add x133 (Value.int .i64 2) (fun x134 w =>
 ap [(Value.int .i64 0),(Value.int .i64 0),(Value.int .i64 0),(Value.int .i64 0),(Value.int .u64 0)] [(0,1,(Value.int .i64 13)),(1,1,x132),(3,1,x134)] (fun x135 w =>
 ap [(Value.int .i64 0),(Value.int .i64 0),(Value.int .i64 0),(Value.int .i64 0),(Value.int .u64 0)] [(0,1,(Value.int .i64 22))] (fun x136 w =>
 ak [(Value.int .i64 0),(Value.int .i64 0),(Value.int .i64 0),(Value.int .i64 0),(Value.int .u64 0)] 2 [(0,5,x135),(5,5,x136)] (fun x137 w =>
 av 5 40 x20 x137 (fun x138 w =>
 j9 x138 w) w) w) w) w) w) w) w) w) w) (fun w=>aa .eql x37 (Value.int .i64 30) (fun x139 w =>
 gW x139 false (fun K w=>K x37 w) (fun x140 w =>
 gW x139 false (fun K w=>aa .eql x140 (Value.int .i64 31) K w) (fun x141 w =>
 bd x139 (Value.bool true) x141 (fun x142 w =>
 cu (fun x143 w =>
 j9 x143 w) (fun j10 w =>
 ae x142 (fun w=>aw (fun w=>ad 2 x27 (fun x144 w =>
 ab x144 (fun x145 w =>
 bp x20 (fun x146 w =>
 aa .add x146 (Value.int .i64 2) (fun x147 w =>
 aj 5 x27 (fun x148 w =>
 CP Tryz.prog ge [x145] (fun x149 w =>
 andP (fun w=>andP (fun w=>aj 5 x27 (fun v w=>dh v x148 w) w) (fun w=>andP (fun w=>ac w) (fun w=>ac w) w) w) (fun w =>
 ap [(Value.int .i64 0),(Value.int .i64 0),(Value.int .i64 0),(Value.int .i64 0),(Value.int .u64 0)] [(0,1,(Value.int .i64 13)),(1,1,x149),(3,1,x147)] (fun x150 w =>
 CP Tryz.prog L8 [x148] (fun x151 w =>
 andP (fun w=>andP (fun w=>ac w) (fun w=>ac w) w) (fun w =>
 ak [(Value.int .i64 0),(Value.int .i64 0),(Value.int .i64 0),(Value.int .i64 0),(Value.int .u64 0)] 2 [(0,5,x150),(5,5,x151)] (fun x152 w =>
 andP (fun w=>ac w) (fun w =>
 av 5 40 x20 x152 (fun x153 w =>
 andP (fun w=>ac w) (fun w =>
 j10 x153 w) w) w) w) w) w) w) w) w) w) w) w) w) w) w) w) (fun w=>aa .eql x37 (Value.int .i64 32) (fun x154 w =>
 gW x154 true (fun K w=>K a2 w) (fun x155 w =>
 gW x154 true (fun K w=>ga x155 K w) (fun x156 w =>
 bd x154 x156 (Value.bool false) (fun x157 w =>
 cu (fun x158 w =>
 j10 x158 w) (fun j11 w =>
 ae x157 (fun w=>aw (fun w=>aj 5 x27 (fun x159 w =>
 ad 2 x27 (fun x160 w =>
 ab x160 (fun x161 w =>
 bp x20 (fun x162 w =>
 CP Tryz.prog L8 [x159] (fun x163 w =>
 andP (fun w=>andP (fun w=>ab x160 (fun v w=>dh v x161 w) w) (fun w=>andP (fun w=>ac w) (fun w=>ac w) w) w) (fun w =>
 CP Tryz.prog ge [x161] (fun x164 w =>
 andP (fun w=>andP (fun w=>ac w) (fun w=>ac w) w) (fun w =>
 ap [(Value.int .i64 0),(Value.int .i64 0),(Value.int .i64 0),(Value.int .i64 0),(Value.int .u64 0)] [(0,1,(Value.int .i64 13)),(1,1,x164),(3,1,x162)] (fun x165 w =>
 ak [(Value.int .i64 0),(Value.int .i64 0),(Value.int .i64 0),(Value.int .i64 0),(Value.int .u64 0)] 2 [(0,5,x163),(5,5,x165)] (fun x166 w =>
 andP (fun w=>ac w) (fun w =>
 av 5 40 x20 x166 (fun x167 w =>
 andP (fun w=>ac w) (fun w =>
 j11 x167 w) w) w) w) w) w) w) w) w) w) w) w) w) w) w) (fun w=>aj 5 x27 (fun x168 w =>
 CP Tryz.prog L8 [x168] (fun x169 w =>
 ak [(Value.int .i64 0),(Value.int .i64 0),(Value.int .i64 0),(Value.int .i64 0),(Value.int .u64 0)] 1 [(0,5,x169)] (fun x170 w =>
 av 5 40 x20 x170 (fun x171 w =>
 j11 x171 w) w) w) w) w) w) w) w) w) w) w) w) w) w) w) w) w) w) w) w) w) w) w) w) w) w) w) w) w) w) w) w) w) w) w) w) w) w) w) w) w) w) w) w) w) w) w) w) w) w) w) w) w) w) w) w) w) w) w) w) w) w) w) w) w) w) w) w) w) w) w) w) w) w) w) w) w) w) w) w) w) w) w) w) w) w) w) w) w) w) w) w) (fun w=>j1 x20 x21 w) w) w) w) w) w) w
theorem CN (a0 a1 a2:Value)(K:KV):jN a0 a1 a2 K=nq a0 a1 a2 K:=by
 unfold jN nq
 generalize @CP=y_CP
 generalize @ad=y_addW
 generalize @andP=y_andP
 generalize @av=y_appendW
 generalize @aa=y_binIntW
 generalize @ak=y_buildSliceW
 generalize @ap=y_buildW
 generalize @ae=y_condP
 generalize @aw=y_drewW
 generalize @dh=y_eqP
 generalize @ao=y_extractW
 generalize @gW=y_gW
 generalize @bt=y_idxW
 generalize @cu=y_joinW1
 generalize @lQ=y_joinW2
 generalize @bp=y_lenW
 generalize @ab=y_load1W
 generalize @aj=y_loadNW
 generalize @iX=y_loopW2
 generalize @Ef=y_loopW3
 generalize @eI=y_newW
 generalize @ga=y_notW
 generalize @bd=y_pickW
 generalize @ag=y_storeW
 rfl
def jd (a0:Value)(K:KV):World→Prop:=fun w =>
 eI #[(Value.slice none 0 0)] (fun x1 w =>
 ai a0 (fun x2 w =>
 ad 1 x2 (fun x3 w =>
 ab x3 (fun x4 w =>
 CP Tryz.prog VN [x4] (fun x5 w =>
 Az GT x5 (fun J R x6 x7 w =>
 CP Tryz.prog Vq [(Value.int .i64 96)] (fun x8 w =>
 ai x7 (fun x9 w =>
 ad 0 x9 (fun x10 w =>
 ab x10 (fun x11 w =>
 CP Tryz.prog LT [x11] (fun x12 w =>
 CP Tryz.prog U9 [x8,x12] (fun x13 w =>
 ab x1 (fun x14 w =>
 CP Tryz.prog U9 [x8,x14] (fun x15 w =>
 CP Tryz.prog LT [x8] (fun x16 w =>
 ag 1 x1 x16 (fun _ w =>
 J w) w) w) w) w) w) w) w) w) w) w) (fun K w =>
 ab x1 (fun x18 w =>
 K x18 w) w) (fun K w =>
 K (Value.slice none 0 0) w) K w) w) w) w) w) w
theorem uY (a0:Value)(K:KV):gJ a0 K=jd a0 K:=by
 unfold gJ jd
 generalize @CP=y_CP
 generalize @ad=y_addW
 generalize @Az=y_backW
 generalize @ab=y_load1W
 generalize @eI=y_newW
 generalize @ai=y_nilW
 generalize @ag=y_storeW
 rfl
def sa (a0 a1:Value)(K:KV):World→Prop:=fun w =>
 dr a0 (fun x1 w =>
 ad 0 x1 (fun x2 w =>
 ab x2 (fun x3 w =>
 bp x3 (fun x4 w =>
 e9 (Value.int .i64 0) (fun J1 x5 w =>
 aa .lss x5 x4 (fun x6 w =>
 ae x6 (fun w=>ax (fun  w =>
 aa .add x5 (Value.int .i64 1) (fun x7 w =>
 J1 x7 w) w) (fun j1 w =>
 bt 5 x3 x5 (fun x8 w =>
 aj 5 x8 (fun x9 w =>
 eI #[(Value.int .i64 0),(Value.int .i64 0),(Value.int .i64 0),(Value.int .i64 0),(Value.int .u64 0)] (fun x10 w =>
 ag 5 x10 x9 (fun _ w =>
 ad 0 x10 (fun x12 w =>
 ab x12 (fun x13 w =>
 CP Tryz.prog WE [x13] (fun x14 w =>
 ga x14 (fun x15 w =>
 ae x15 (fun w=>j1  w) (fun w=>aw (fun w=>ad 3 x10 (fun x16 w =>
 ab x16 (fun x17 w =>
 ad 0 x1 (fun x18 w =>
 ab x18 (fun x19 w =>
 bp x19 (fun x20 w =>
 aa .gtr x17 x20 (fun x21 w =>
 gW x21 false (fun K w=>ad 3 x10 K w) (fun x22 w =>
 gW x21 false (fun K w=>ab x22 K w) (fun x23 w =>
 gW x21 false (fun K w=>ad 0 x1 K w) (fun x24 w =>
 gW x21 false (fun K w=>ab x24 K w) (fun x25 w =>
 gW x21 false (fun K w=>bp x25 K w) (fun x26 w =>
 gW x21 false (fun K w=>aa .eql x23 x26 K w) (fun x27 w =>
 gW x21 false (fun K w=>K x27 w) (fun x28 w =>
 gW x28 true (fun K w=>K a1 w) (fun x29 w =>
 gW x28 true (fun K w=>K x5 w) (fun x30 w =>
 gW x28 true (fun K w=>bt 1 x29 x30 K w) (fun x31 w =>
 gW x28 true (fun K w=>ab x31 K w) (fun x32 w =>
 gW x28 true (fun K w=>aa .neq x32 (Value.int .i64 (-1)) K w) (fun x33 w =>
 gW x21 false (fun K w=>bd x28 x33 (Value.bool false) K w) (fun x34 w =>
 bd x21 (Value.bool true) x34 (fun x35 w =>
 gW x35 false (fun K w=>ad 3 x10 K w) (fun x36 w =>
 gW x35 false (fun K w=>ab x36 K w) (fun x37 w =>
 gW x35 false (fun K w=>ad 0 x1 K w) (fun x38 w =>
 gW x35 false (fun K w=>ab x38 K w) (fun x39 w =>
 gW x35 false (fun K w=>bp x39 K w) (fun x40 w =>
 gW x35 false (fun K w=>aa .lss x37 x40 K w) (fun x41 w =>
 gW x35 false (fun K w=>K x41 w) (fun x42 w =>
 gW x42 true (fun K w=>K a1 w) (fun x43 w =>
 gW x42 true (fun K w=>ad 3 x10 K w) (fun x44 w =>
 gW x42 true (fun K w=>ab x44 K w) (fun x45 w =>
 gW x42 true (fun K w=>bt 1 x43 x45 K w) (fun x46 w =>
 gW x42 true (fun K w=>ab x46 K w) (fun x47 w =>
 gW x42 true (fun K w=>K a1 w) (fun x48 w =>
 gW x42 true (fun K w=>K x5 w) (fun x49 w =>
 gW x42 true (fun K w=>bt 1 x48 x49 K w) (fun x50 w =>
 gW x42 true (fun K w=>ab x50 K w) (fun x51 w =>
 gW x42 true (fun K w=>aa .neq x47 x51 K w) (fun x52 w =>
 gW x35 false (fun K w=>bd x42 x52 (Value.bool false) K w) (fun x53 w =>
 bd x35 (Value.bool true) x53 (fun x54 w =>
 ae x54 (fun w=>K (Value.tuple #[x5,(Value.int .i64 2)]) w) (fun w=>j1  w) w) w) w) w) w) w) w) w) w) w) w) w) w) w) w) w) w) w) w) w) w) w) w) w) w) w) w) w) w) w) w) w) w) w) w) w) w) w) w) w) w) w) w) w) w) w) w) w) w) w) w) (fun w=>K (Value.tuple #[(Value.int .i64 0),(Value.int .i64 0)]) w) w) w) w) w) w) w) w
theorem GA (a0 a1:Value)(K:KV):nY a0 a1 K=sa a0 a1 K:=by
 unfold nY sa
 generalize @CP=y_CP
 generalize @ad=y_addW
 generalize @aa=y_binIntW
 generalize @dr=y_boxW
 generalize @ae=y_condP
 generalize @aw=y_drewW
 generalize @gW=y_gW
 generalize @bt=y_idxW
 generalize @ax=y_joinW0
 generalize @bp=y_lenW
 generalize @ab=y_load1W
 generalize @aj=y_loadNW
 generalize @e9=y_loopW1
 generalize @eI=y_newW
 generalize @ga=y_notW
 generalize @bd=y_pickW
 generalize @ag=y_storeW
 rfl
def kf (a0 a1:Value)(K:KV):World→Prop:=fun w =>
 dr a1 (fun x1 w =>
 eI #[(Value.int .u64 0)] (fun x2 w =>
 eI #[(Value.bool false)] (fun x3 w =>
 ai a0 (fun x4 w =>
 ad 1 x4 (fun x5 w =>
 ab x5 (fun x6 w =>
 CP Tryz.prog VN [x6] (fun x7 w =>
 Az GT x7 (fun J R x8 x9 w =>
 aw (fun w=>ai x9 (fun x10 w =>
 ad 0 x10 (fun x11 w =>
 ab x11 (fun x12 w =>
 ab x1 (fun x13 w =>
 CP Tryz.prog VQ [x12,x13] (fun x14 w =>
 andP (fun w=>andP (fun w=>ac w) (fun w=>andP (fun w=>ac w) (fun w=>ac w) w) w) (fun w =>
 ao 0 x14 (fun x15 w =>
 ao 1 x14 (fun x16 w =>
 ae x16 (fun w=>ag 1 x2 x15 (fun _ w =>
 ag 1 x3 (Value.bool true) (fun _ w =>
 R w) w) w) (fun w=>J w) w) w) w) w) w) w) w) w) w) w) (fun K w =>
 ag 1 x2 (Value.int .u64 0) (fun _ w =>
 ag 1 x3 (Value.bool false) (fun _ w =>
 ab x2 (fun x21 w =>
 ab x3 (fun x22 w =>
 K (Value.tuple #[x21,x22]) w) w) w) w) w) (fun K w =>
 ab x2 (fun x23 w =>
 ab x3 (fun x24 w =>
 K (Value.tuple #[x23,x24]) w) w) w) K w) w) w) w) w) w) w) w
theorem yx (a0 a1:Value)(K:KV):il a0 a1 K=kf a0 a1 K:=by
 unfold il kf
 generalize @CP=y_CP
 generalize @ad=y_addW
 generalize @andP=y_andP
 generalize @Az=y_backW
 generalize @dr=y_boxW
 generalize @ae=y_condP
 generalize @aw=y_drewW
 generalize @ao=y_extractW
 generalize @ab=y_load1W
 generalize @eI=y_newW
 generalize @ai=y_nilW
 generalize @ag=y_storeW
 rfl
end Go.Proofs.YtoealglbimbbmaaGreatDoor.S
namespace Go.Proofs.YtoealglbimbbmaaGreatDoor.S
open Go Go.Proofs
set_option linter.unusedVariables false
set_option maxRecDepth 100000
end Go.Proofs.YtoealglbimbbmaaGreatDoor.S
