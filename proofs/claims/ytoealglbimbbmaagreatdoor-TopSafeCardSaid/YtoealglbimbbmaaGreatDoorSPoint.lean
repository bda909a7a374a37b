import Derived.Test.YtoealglbimbbmaaGreatDoorSForm
namespace Go.Proofs.YtoealglbimbbmaaGreatDoor.S
open Go Go.Proofs
set_option linter.unusedVariables false
set_option maxRecDepth 100000
def ja (a0:Value)(K:KV):World→Prop:=fun w =>
 ee #[(Value.slice none 0 0)] (fun x1 w =>
 aj a0 (fun x2 w =>
 ac 1 x2 (fun x3 w =>
 aa x3 (fun x4 w =>
 CP Tryz.prog Wc [x4] (fun x5 w =>
 z8 GE x5 (fun J R x6 x7 w =>
 CP Tryz.prog VS [(Value.int .i64 96)] (fun x8 w =>
 aj x7 (fun x9 w =>
 ac 0 x9 (fun x10 w =>
 aa x10 (fun x11 w =>
 CP Tryz.prog Nm [x11] (fun x12 w =>
 CP Tryz.prog VH [x8,x12] (fun x13 w =>
 aa x1 (fun x14 w =>
 CP Tryz.prog VH [x8,x14] (fun x15 w =>
 CP Tryz.prog Nm [x8] (fun x16 w =>
 ah 1 x1 x16 (fun _ w =>
 J w) w) w) w) w) w) w) w) w) w) w) (fun K w =>
 aa x1 (fun x18 w =>
 K x18 w) w) (fun K w =>
 K (Value.slice none 0 0) w) K w) w) w) w) w) w
theorem uG (a0:Value)(K:KV):gx a0 K=ja a0 K:=by
 unfold gx ja
 generalize @CP=y_CP
 generalize @ac=y_addW
 generalize @z8=y_backW
 generalize @aa=y_load1W
 generalize @ee=y_newW
 generalize @aj=y_nilW
 generalize @ah=y_storeW
 rfl
def ry (a0 a1:Value)(K:KV):World→Prop:=fun w =>
 dB a0 (fun x1 w =>
 ac 0 x1 (fun x2 w =>
 aa x2 (fun x3 w =>
 cv x3 (fun x4 w =>
 ev (Value.int .i64 0) (fun J1 x5 w =>
 ab .lss x5 x4 (fun x6 w =>
 ai x6 (fun w=>ba (fun  w =>
 ab .add x5 (Value.int .i64 1) (fun x7 w =>
 J1 x7 w) w) (fun j1 w =>
 ch 5 x3 x5 (fun x8 w =>
 ak 5 x8 (fun x9 w =>
 ee #[(Value.int .i64 0),(Value.int .i64 0),(Value.int .i64 0),(Value.int .i64 0),(Value.int .u64 0)] (fun x10 w =>
 ah 5 x10 x9 (fun _ w =>
 ac 0 x10 (fun x12 w =>
 aa x12 (fun x13 w =>
 CP Tryz.prog WX [x13] (fun x14 w =>
 gA x14 (fun x15 w =>
 ai x15 (fun w=>j1  w) (fun w=>bh (fun w=>ac 3 x10 (fun x16 w =>
 aa x16 (fun x17 w =>
 ac 0 x1 (fun x18 w =>
 aa x18 (fun x19 w =>
 cv x19 (fun x20 w =>
 ab .gtr x17 x20 (fun x21 w =>
 gW x21 false (fun K w=>ac 3 x10 K w) (fun x22 w =>
 gW x21 false (fun K w=>aa x22 K w) (fun x23 w =>
 gW x21 false (fun K w=>ac 0 x1 K w) (fun x24 w =>
 gW x21 false (fun K w=>aa x24 K w) (fun x25 w =>
 gW x21 false (fun K w=>cv x25 K w) (fun x26 w =>
 gW x21 false (fun K w=>ab .eql x23 x26 K w) (fun x27 w =>
 gW x21 false (fun K w=>K x27 w) (fun x28 w =>
 gW x28 true (fun K w=>K a1 w) (fun x29 w =>
 gW x28 true (fun K w=>K x5 w) (fun x30 w =>
 gW x28 true (fun K w=>ch 1 x29 x30 K w) (fun x31 w =>
 gW x28 true (fun K w=>aa x31 K w) (fun x32 w =>
 gW x28 true (fun K w=>ab .neq x32 (Value.int .i64 (-1)) K w) (fun x33 w =>
 gW x21 false (fun K w=>bp x28 x33 (Value.bool false) K w) (fun x34 w =>
 bp x21 (Value.bool true) x34 (fun x35 w =>
 gW x35 false (fun K w=>ac 3 x10 K w) (fun x36 w =>
 gW x35 false (fun K w=>aa x36 K w) (fun x37 w =>
 gW x35 false (fun K w=>ac 0 x1 K w) (fun x38 w =>
 gW x35 false (fun K w=>aa x38 K w) (fun x39 w =>
 gW x35 false (fun K w=>cv x39 K w) (fun x40 w =>
 gW x35 false (fun K w=>ab .lss x37 x40 K w) (fun x41 w =>
 gW x35 false (fun K w=>K x41 w) (fun x42 w =>
 gW x42 true (fun K w=>K a1 w) (fun x43 w =>
 gW x42 true (fun K w=>ac 3 x10 K w) (fun x44 w =>
 gW x42 true (fun K w=>aa x44 K w) (fun x45 w =>
 gW x42 true (fun K w=>ch 1 x43 x45 K w) (fun x46 w =>
 gW x42 true (fun K w=>aa x46 K w) (fun x47 w =>
 gW x42 true (fun K w=>K a1 w) (fun x48 w =>
 gW x42 true (fun K w=>K x5 w) (fun x49 w =>
 gW x42 true (fun K w=>ch 1 x48 x49 K w) (fun x50 w =>
 gW x42 true (fun K w=>aa x50 K w) (fun x51 w =>
 gW x42 true (fun K w=>ab .neq x47 x51 K w) (fun x52 w =>
 gW x35 false (fun K w=>bp x42 x52 (Value.bool false) K w) (fun x53 w =>
 bp x35 (Value.bool true) x53 (fun x54 w =>
 ai x54 (fun w=>K (Value.tuple #[x5,(Value.int .i64 2)]) w) (fun w=>j1  w) w) w) w) w) w) w) w) w) w) w) w) w) w) w) w) w) w) w) w) w) w) w) w) w) w) w) w) w) w) w) w) w) w) w) w) w) w) w) w) w) w) w) w) w) w) w) w) w) w) w) w) (fun w=>K (Value.tuple #[(Value.int .i64 0),(Value.int .i64 0)]) w) w) w) w) w) w) w) w
theorem FF (a0 a1:Value)(K:KV):nv a0 a1 K=ry a0 a1 K:=by
 unfold nv ry
 generalize @CP=y_CP
 generalize @ac=y_addW
 generalize @ab=y_binIntW
 generalize @dB=y_boxW
 generalize @ai=y_condP
 generalize @bh=y_drewW
 generalize @gW=y_gW
 generalize @ch=y_idxW
 generalize @ba=y_joinW0
 generalize @cv=y_lenW
 generalize @aa=y_load1W
 generalize @ak=y_loadNW
 generalize @ev=y_loopW1
 generalize @ee=y_newW
 generalize @gA=y_notW
 generalize @bp=y_pickW
 generalize @ah=y_storeW
 rfl
def j8 (a0 a1:Value)(K:KV):World→Prop:=fun w =>
 dB a1 (fun x1 w =>
 ee #[(Value.int .u64 0)] (fun x2 w =>
 ee #[(Value.bool false)] (fun x3 w =>
 aj a0 (fun x4 w =>
 ac 1 x4 (fun x5 w =>
 aa x5 (fun x6 w =>
 CP Tryz.prog Wc [x6] (fun x7 w =>
 z8 GE x7 (fun J R x8 x9 w =>
 bh (fun w=>aj x9 (fun x10 w =>
 ac 0 x10 (fun x11 w =>
 aa x11 (fun x12 w =>
 aa x1 (fun x13 w =>
 CP Tryz.prog Wf [x12,x13] (fun x14 w =>
 andP (fun w=>andP (fun w=>ad w) (fun w=>andP (fun w=>ad w) (fun w=>ad w) w) w) (fun w =>
 aq 0 x14 (fun x15 w =>
 aq 1 x14 (fun x16 w =>
 ai x16 (fun w=>ah 1 x2 x15 (fun _ w =>
 ah 1 x3 (Value.bool true) (fun _ w =>
 R w) w) w) (fun w=>J w) w) w) w) w) w) w) w) w) w) w) (fun K w =>
 ah 1 x2 (Value.int .u64 0) (fun _ w =>
 ah 1 x3 (Value.bool false) (fun _ w =>
 aa x2 (fun x21 w =>
 aa x3 (fun x22 w =>
 K (Value.tuple #[x21,x22]) w) w) w) w) w) (fun K w =>
 aa x2 (fun x23 w =>
 aa x3 (fun x24 w =>
 K (Value.tuple #[x23,x24]) w) w) w) K w) w) w) w) w) w) w) w
theorem xB (a0 a1:Value)(K:KV):ic a0 a1 K=j8 a0 a1 K:=by
 unfold ic j8
 generalize @CP=y_CP
 generalize @ac=y_addW
 generalize @andP=y_andP
 generalize @z8=y_backW
 generalize @dB=y_boxW
 generalize @ai=y_condP
 generalize @bh=y_drewW
 generalize @aq=y_extractW
 generalize @aa=y_load1W
 generalize @ee=y_newW
 generalize @aj=y_nilW
 generalize @ah=y_storeW
 rfl
end Go.Proofs.YtoealglbimbbmaaGreatDoor.S
namespace Go.Proofs.YtoealglbimbbmaaGreatDoor.S
open Go Go.Proofs
set_option linter.unusedVariables false
set_option maxRecDepth 100000
end Go.Proofs.YtoealglbimbbmaaGreatDoor.S
