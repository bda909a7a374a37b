import Derived.Test.YtoealglbimbbmaaGreatDoorSForm
namespace Go.Proofs.YtoealglbimbbmaaGreatDoor.S
open Go Go.Proofs
set_option linter.unusedVariables false
set_option maxRecDepth 100000
def iW (a0:Value)(K:KV):World→Prop:=fun w =>
 dq #[(Value.slice none 0 0)] (fun x1 w =>
 ah a0 (fun x2 w =>
 ad 1 x2 (fun x3 w =>
 aa x3 (fun x4 w =>
 CP Tryz.prog Yb [x4] (fun x5 w =>
 B8 Xm x5 (fun J R x6 x7 w =>
 CP Tryz.prog XP [(Value.int .i64 96)] (fun x8 w =>
 ah x7 (fun x9 w =>
 ad 0 x9 (fun x10 w =>
 aa x10 (fun x11 w =>
 CP Tryz.prog Xs [x11] (fun x12 w =>
 CP Tryz.prog Xz [x8,x12] (fun x13 w =>
 aa x1 (fun x14 w =>
 CP Tryz.prog Xz [x8,x14] (fun x15 w =>
 CP Tryz.prog Xs [x8] (fun x16 w =>
 ag 1 x1 x16 (fun _ w =>
 J w) w) w) w) w) w) w) w) w) w) w) (fun K w =>
 aa x1 (fun x18 w =>
 K x18 w) w) (fun K w =>
 K (Value.slice none 0 0) w) K w) w) w) w) w) w
theorem uR (a0:Value)(K:KV):gd a0 K=iW a0 K:=by
 unfold gd iW
 generalize @CP=y_CP
 generalize @ad=y_addW
 generalize @B8=y_backW
 generalize @aa=y_load1W
 generalize @dq=y_newW
 generalize @ah=y_nilW
 generalize @ag=y_storeW
 rfl
def rN (a0 a1:Value)(K:KV):World→Prop:=fun w =>
 cn a0 (fun x1 w =>
 ad 0 x1 (fun x2 w =>
 aa x2 (fun x3 w =>
 ct x3 (fun x4 w =>
 du (Value.int .i64 0) (fun J1 x5 w =>
 ab .lss x5 x4 (fun x6 w =>
 ae x6 (fun w=>ar (fun  w =>
 ab .add x5 (Value.int .i64 1) (fun x7 w =>
 J1 x7 w) w) (fun j1 w =>
 cg 5 x3 x5 (fun x8 w =>
 aj 5 x8 (fun x9 w =>
 dq #[(Value.int .i64 0),(Value.int .i64 0),(Value.int .i64 0),(Value.int .i64 0),(Value.int .u64 0)] (fun x10 w =>
 ag 5 x10 x9 (fun _ w =>
 ad 0 x10 (fun x12 w =>
 aa x12 (fun x13 w =>
 CP Tryz.prog Zj [x13] (fun x14 w =>
 eW x14 (fun x15 w =>
 ae x15 (fun w=>j1  w) (fun w=>aq (fun w=>ad 3 x10 (fun x16 w =>
 aa x16 (fun x17 w =>
 ad 0 x1 (fun x18 w =>
 aa x18 (fun x19 w =>
 ct x19 (fun x20 w =>
 ab .gtr x17 x20 (fun x21 w =>
 gW x21 false (fun K w=>ad 3 x10 K w) (fun x22 w =>
 gW x21 false (fun K w=>aa x22 K w) (fun x23 w =>
 gW x21 false (fun K w=>ad 0 x1 K w) (fun x24 w =>
 gW x21 false (fun K w=>aa x24 K w) (fun x25 w =>
 gW x21 false (fun K w=>ct x25 K w) (fun x26 w =>
 gW x21 false (fun K w=>ab .eql x23 x26 K w) (fun x27 w =>
 gW x21 false (fun K w=>K x27 w) (fun x28 w =>
 gW x28 true (fun K w=>K a1 w) (fun x29 w =>
 gW x28 true (fun K w=>K x5 w) (fun x30 w =>
 gW x28 true (fun K w=>cg 1 x29 x30 K w) (fun x31 w =>
 gW x28 true (fun K w=>aa x31 K w) (fun x32 w =>
 gW x28 true (fun K w=>ab .neq x32 (Value.int .i64 (-1)) K w) (fun x33 w =>
 gW x21 false (fun K w=>ay x28 x33 (Value.bool false) K w) (fun x34 w =>
 ay x21 (Value.bool true) x34 (fun x35 w =>
 gW x35 false (fun K w=>ad 3 x10 K w) (fun x36 w =>
 gW x35 false (fun K w=>aa x36 K w) (fun x37 w =>
 gW x35 false (fun K w=>ad 0 x1 K w) (fun x38 w =>
 gW x35 false (fun K w=>aa x38 K w) (fun x39 w =>
 gW x35 false (fun K w=>ct x39 K w) (fun x40 w =>
 gW x35 false (fun K w=>ab .lss x37 x40 K w) (fun x41 w =>
 gW x35 false (fun K w=>K x41 w) (fun x42 w =>
 gW x42 true (fun K w=>K a1 w) (fun x43 w =>
 gW x42 true (fun K w=>ad 3 x10 K w) (fun x44 w =>
 gW x42 true (fun K w=>aa x44 K w) (fun x45 w =>
 gW x42 true (fun K w=>cg 1 x43 x45 K w) (fun x46 w =>
 gW x42 true (fun K w=>aa x46 K w) (fun x47 w =>
 gW x42 true (fun K w=>K a1 w) (fun x48 w =>
 gW x42 true (fun K w=>K x5 w) (fun x49 w =>
 gW x42 true (fun K w=>cg 1 x48 x49 K w) (fun x50 w =>
 gW x42 true (fun K w=>aa x50 K w) (fun x51 w =>
 gW x42 true (fun K w=>ab .neq x47 x51 K w) (fun x52 w =>
 gW x35 false (fun K w=>ay x42 x52 (Value.bool false) K w) (fun x53 w =>
 ay x35 (Value.bool true) x53 (fun x54 w =>
 ae x54 (fun w=>K (Value.tuple #[x5,(Value.int .i64 2)]) w) (fun w=>j1  w) w) w) w) w) w) w) w) w) w) w) w) w) w) w) w) w) w) w) w) w) w) w) w) w) w) w) w) w) w) w) w) w) w) w) w) w) w) w) w) w) w) w) w) w) w) w) w) w) w) w) w) (fun w=>K (Value.tuple #[(Value.int .i64 0),(Value.int .i64 0)]) w) w) w) w) w) w) w) w
theorem Ie (a0 a1:Value)(K:KV):nm a0 a1 K=rN a0 a1 K:=by
 unfold nm rN
 generalize @CP=y_CP
 generalize @ad=y_addW
 generalize @ab=y_binIntW
 generalize @cn=y_boxW
 generalize @ae=y_condP
 generalize @aq=y_drewW
 generalize @gW=y_gW
 generalize @cg=y_idxW
 generalize @ar=y_joinW0
 generalize @ct=y_lenW
 generalize @aa=y_load1W
 generalize @aj=y_loadNW
 generalize @du=y_loopW1
 generalize @dq=y_newW
 generalize @eW=y_notW
 generalize @ay=y_pickW
 generalize @ag=y_storeW
 rfl
def jI (a0 a1:Value)(K:KV):World→Prop:=fun w =>
 cn a1 (fun x1 w =>
 dq #[(Value.int .u64 0)] (fun x2 w =>
 dq #[(Value.bool false)] (fun x3 w =>
 ah a0 (fun x4 w =>
 ad 1 x4 (fun x5 w =>
 aa x5 (fun x6 w =>
 CP Tryz.prog Yb [x6] (fun x7 w =>
 B8 Xm x7 (fun J R x8 x9 w =>
 aq (fun w=>ah x9 (fun x10 w =>
 ad 0 x10 (fun x11 w =>
 aa x11 (fun x12 w =>
 aa x1 (fun x13 w =>
 CP Tryz.prog Yh [x12,x13] (fun x14 w =>
 andP (fun w=>andP (fun w=>ac w) (fun w=>andP (fun w=>ac w) (fun w=>ac w) w) w) (fun w =>
 ak 0 x14 (fun x15 w =>
 ak 1 x14 (fun x16 w =>
 ae x16 (fun w=>ag 1 x2 x15 (fun _ w =>
 ag 1 x3 (Value.bool true) (fun _ w =>
 R w) w) w) (fun w=>J w) w) w) w) w) w) w) w) w) w) w) (fun K w =>
 ag 1 x2 (Value.int .u64 0) (fun _ w =>
 ag 1 x3 (Value.bool false) (fun _ w =>
 aa x2 (fun x21 w =>
 aa x3 (fun x22 w =>
 K (Value.tuple #[x21,x22]) w) w) w) w) w) (fun K w =>
 aa x2 (fun x23 w =>
 aa x3 (fun x24 w =>
 K (Value.tuple #[x23,x24]) w) w) w) K w) w) w) w) w) w) w) w
theorem yx (a0 a1:Value)(K:KV):gK a0 a1 K=jI a0 a1 K:=by
 unfold gK jI
 generalize @CP=y_CP
 generalize @ad=y_addW
 generalize @andP=y_andP
 generalize @B8=y_backW
 generalize @cn=y_boxW
 generalize @ae=y_condP
 generalize @aq=y_drewW
 generalize @ak=y_extractW
 generalize @aa=y_load1W
 generalize @dq=y_newW
 generalize @ah=y_nilW
 generalize @ag=y_storeW
 rfl
end Go.Proofs.YtoealglbimbbmaaGreatDoor.S
namespace Go.Proofs.YtoealglbimbbmaaGreatDoor.S
open Go Go.Proofs
set_option linter.unusedVariables false
set_option maxRecDepth 100000
end Go.Proofs.YtoealglbimbbmaaGreatDoor.S
