/-
  THE PLAIN FORMS, WITH THE WORLD NAMED AT EACH STEP, by a program.
-/
import Derived.Test.YtokbiojkpldfeaaSForm
namespace Go.Proofs.Ytokbiojkpldfeaa.S
open Go Go.Proofs
set_option linter.unusedVariables false
set_option maxRecDepth 100000
/-- law18_TableRuns -/
def P_law18_TableRuns (K : KV) : World → Prop := fun w =>
 CP Try.prog Fn.arena_Fresh [(Value.int .i64 100)] (fun x1 w =>
 CP Try.prog Fn.view_Whole [x1, (Value.int .i64 96)] (fun x2 w =>
 eqNilW .eql x2 (Value.pointer none) (fun x3 w =>
 condP x3 (fun w => K (Value.bool false) w) (fun w => CP Try.prog Fn.table_Put [x2, (Value.int .i64 6), (Value.int .u64 9), (Value.int .u64 1)] (fun x4 w =>
 extractW 0 x4 (fun x5 w =>
 extractW 1 x4 (fun x6 w =>
 CP Try.prog Fn.table_Put [x2, (Value.int .i64 6), (Value.int .u64 9), (Value.int .u64 2)] (fun x7 w =>
 extractW 0 x7 (fun x8 w =>
 extractW 1 x7 (fun x9 w =>
 CP Try.prog Fn.table_Get [x2, (Value.int .i64 6), (Value.int .u64 9)] (fun x10 w =>
 extractW 0 x10 (fun x11 w =>
 extractW 1 x10 (fun x12 w =>
 extractW 2 x10 (fun x13 w =>
 CP Try.prog Fn.table_All [x2, (Value.int .i64 6)] (fun x14 w =>
 extractW 0 x14 (fun x15 w =>
 extractW 1 x14 (fun x16 w =>
 CP Try.prog Fn.table_Get [x2, (Value.int .i64 5), (Value.int .u64 9)] (fun x17 w =>
 extractW 0 x17 (fun x18 w =>
 extractW 1 x17 (fun x19 w =>
 extractW 2 x17 (fun x20 w =>
 gW x5 true (fun K w => K x6 w) (fun x21 w =>
 gW x5 true (fun K w => binIntW .eql x21 (Value.int .i64 0) K w) (fun x22 w =>
 pickW x5 x22 (Value.bool false) (fun x23 w =>
 gW x23 true (fun K w => K x8 w) (fun x24 w =>
 gW x23 true (fun K w => notW x24 K w) (fun x25 w =>
 pickW x23 x25 (Value.bool false) (fun x26 w =>
 gW x26 true (fun K w => K x9 w) (fun x27 w =>
 gW x26 true (fun K w => binIntW .eql x27 (Value.int .i64 0) K w) (fun x28 w =>
 pickW x26 x28 (Value.bool false) (fun x29 w =>
 gW x29 true (fun K w => K x11 w) (fun x30 w =>
 gW x29 true (fun K w => binIntW .eql x30 (Value.int .u64 2) K w) (fun x31 w =>
 pickW x29 x31 (Value.bool false) (fun x32 w =>
 gW x32 true (fun K w => K x12 w) (fun x33 w =>
 pickW x32 x33 (Value.bool false) (fun x34 w =>
 gW x34 true (fun K w => K x13 w) (fun x35 w =>
 gW x34 true (fun K w => binIntW .eql x35 (Value.int .i64 0) K w) (fun x36 w =>
 pickW x34 x36 (Value.bool false) (fun x37 w =>
 gW x37 true (fun K w => K x16 w) (fun x38 w =>
 gW x37 true (fun K w => binIntW .eql x38 (Value.int .i64 0) K w) (fun x39 w =>
 pickW x37 x39 (Value.bool false) (fun x40 w =>
 gW x40 true (fun K w => K x15 w) (fun x41 w =>
 gW x40 true (fun K w => lenW x41 K w) (fun x42 w =>
 gW x40 true (fun K w => binIntW .eql x42 (Value.int .i64 1) K w) (fun x43 w =>
 pickW x40 x43 (Value.bool false) (fun x44 w =>
 gW x44 true (fun K w => K x15 w) (fun x45 w =>
 gW x44 true (fun K w => idxW 2 x45 (Value.int .i64 0) K w) (fun x46 w =>
 gW x44 true (fun K w => loadNW 2 x46 K w) (fun x47 w =>
 gW x44 true (fun K w => buildW [(Value.int .u64 0), (Value.int .u64 0)] [(0, 1, (Value.int .u64 9)), (1, 1, (Value.int .u64 2))] K w) (fun x48 w =>
 gW x44 true (fun K w => eqAggW [.i .u64, .i .u64] .eql x47 x48 K w) (fun x49 w =>
 pickW x44 x49 (Value.bool false) (fun x50 w =>
 gW x50 true (fun K w => K x20 w) (fun x51 w =>
 gW x50 true (fun K w => binIntW .eql x51 (Value.int .i64 2) K w) (fun x52 w =>
 pickW x50 x52 (Value.bool false) (fun x53 w =>
 K x53 w) w) w) w) w) w) w) w) w) w) w) w) w) w) w) w) w) w) w) w) w) w) w) w) w) w) w) w) w) w) w) w) w) w) w) w) w) w) w) w) w) w) w) w) w) w) w) w) w) w) w) w) w) w) w

theorem Q_law18_TableRuns (K : KV) : S_law18_TableRuns K = P_law18_TableRuns K := by
  unfold S_law18_TableRuns P_law18_TableRuns
  generalize @CP = y_CP
  generalize @binIntW = y_binIntW
  generalize @buildW = y_buildW
  generalize @condP = y_condP
  generalize @eqAggW = y_eqAggW
  generalize @eqNilW = y_eqNilW
  generalize @extractW = y_extractW
  generalize @gW = y_gW
  generalize @idxW = y_idxW
  generalize @lenW = y_lenW
  generalize @loadNW = y_loadNW
  generalize @notW = y_notW
  generalize @pickW = y_pickW
  rfl

/-- view_Whole -/
def P_view_Whole (a0 a1 : Value) (K : KV) : World → Prop := fun w =>
 lenW a0 (fun x1 w =>
 CP Try.prog Fn.view_New [x1, a1] (fun x2 w =>
 loopW1 (Value.int .i64 1) (fun J1 x3 w =>
 CP Try.prog Fn.view_View_Size [x2] (fun x4 w =>
 binIntW .lss x3 x4 (fun x5 w =>
 condP x5 (fun w => lenW a0 (fun x6 w =>
 binIntW .lss x3 x6 (fun x7 w =>
 joinW1 (fun x8 w =>
 CP Try.prog Fn.view_View_Know [x2, x3, x8] (fun x9 w =>
 binIntW .add x3 (Value.int .i64 1) (fun x10 w =>
 J1 x10 w) w) w) (fun j1 w =>
 condP x7 (fun w => idxW 1 a0 x3 (fun x11 w =>
 load1W x11 (fun x12 w =>
 j1 x12 w) w) w) (fun w => j1 (Value.int .u64 0) w) w) w) w) w) (fun w => K x2 w) w) w) w) w) w) w

theorem Q_view_Whole (a0 a1 : Value) (K : KV) : S_view_Whole a0 a1 K = P_view_Whole a0 a1 K := by
  unfold S_view_Whole P_view_Whole
  generalize @CP = y_CP
  generalize @binIntW = y_binIntW
  generalize @condP = y_condP
  generalize @idxW = y_idxW
  generalize @joinW1 = y_joinW1
  generalize @lenW = y_lenW
  generalize @load1W = y_load1W
  generalize @loopW1 = y_loopW1
  rfl

/-- arena_Fresh -/
def P_arena_Fresh (a0 : Value) (K : KV) : World → Prop := fun w =>
 minW a0 [(Value.int .i64 256)] (fun x1 w =>
 maxW (Value.int .i64 32) [x1] (fun x2 w =>
 makeSliceW 8 [(Value.int .u64 0)] x2 x2 (fun x3 w =>
 idxW 1 x3 (Value.int .i64 5) (fun x4 w =>
 storeW 1 x4 (Value.int .u64 14) (fun _ w =>
 K x3 w) w) w) w) w) w

theorem Q_arena_Fresh (a0 : Value) (K : KV) : S_arena_Fresh a0 K = P_arena_Fresh a0 K := by
  unfold S_arena_Fresh P_arena_Fresh
  generalize @idxW = y_idxW
  generalize @makeSliceW = y_makeSliceW
  generalize @maxW = y_maxW
  generalize @minW = y_minW
  generalize @storeW = y_storeW
  rfl

/-- table_Put -/
def P_table_Put (a0 a1 a2 a3 : Value) (K : KV) : World → Prop := fun w =>
 boxW a1 (fun x1 w =>
 boxW a2 (fun x2 w =>
 boxW a3 (fun x3 w =>
 newW #[(Value.bool false)] (fun x4 w =>
 storeW 1 x4 (Value.bool false) (fun _ w =>
 load1W x1 (fun x6 w =>
 CP Try.prog Fn.draft_Do [a0, x6, (Value.func (.func Fn.table_Put_1) #[] #[x1, x2, x3, x4])] (fun x7 w =>
 load1W x4 (fun x8 w =>
 gW x8 true (fun K w => K x7 w) (fun x9 w =>
 gW x8 true (fun K w => binIntW .eql x9 (Value.int .i64 0) K w) (fun x10 w =>
 pickW x8 x10 (Value.bool false) (fun x11 w =>
 K (Value.tuple #[x11, x7]) w) w) w) w) w) w) w) w) w) w) w) w

theorem Q_table_Put (a0 a1 a2 a3 : Value) (K : KV) : S_table_Put a0 a1 a2 a3 K = P_table_Put a0 a1 a2 a3 K := by
  unfold S_table_Put P_table_Put
  generalize @CP = y_CP
  generalize @binIntW = y_binIntW
  generalize @boxW = y_boxW
  generalize @gW = y_gW
  generalize @load1W = y_load1W
  generalize @newW = y_newW
  generalize @pickW = y_pickW
  generalize @storeW = y_storeW
  rfl

/-- table_Get -/
def P_table_Get (a0 a1 a2 : Value) (K : KV) : World → Prop := fun w =>
 boxW a1 (fun x1 w =>
 boxW a2 (fun x2 w =>
 newW #[(Value.int .u64 0)] (fun x3 w =>
 newW #[(Value.bool false)] (fun x4 w =>
 storeW 1 x3 (Value.int .u64 0) (fun _ w =>
 storeW 1 x4 (Value.bool false) (fun _ w =>
 load1W x1 (fun x7 w =>
 CP Try.prog Fn.draft_Do [a0, x7, (Value.func (.func Fn.table_Get_1) #[] #[x1, x2, x3, x4])] (fun x8 w =>
 binIntW .neq x8 (Value.int .i64 0) (fun x9 w =>
 condP x9 (fun w => K (Value.tuple #[(Value.int .u64 0), (Value.bool false), x8]) w) (fun w => drewW (fun w => load1W x3 (fun x10 w =>
 load1W x4 (fun x11 w =>
 K (Value.tuple #[x10, x11, (Value.int .i64 0)]) w) w) w) w) w) w) w) w) w) w) w) w) w) w

theorem Q_table_Get (a0 a1 a2 : Value) (K : KV) : S_table_Get a0 a1 a2 K = P_table_Get a0 a1 a2 K := by
  unfold S_table_Get P_table_Get
  generalize @CP = y_CP
  generalize @binIntW = y_binIntW
  generalize @boxW = y_boxW
  generalize @condP = y_condP
  generalize @drewW = y_drewW
  generalize @load1W = y_load1W
  generalize @newW = y_newW
  generalize @storeW = y_storeW
  rfl

/-- table_All -/
def P_table_All (a0 a1 : Value) (K : KV) : World → Prop := fun w =>
 boxW a1 (fun x1 w =>
 newW #[(Value.slice none 0 0)] (fun x2 w =>
 load1W x1 (fun x3 w =>
 CP Try.prog Fn.draft_Do [a0, x3, (Value.func (.func Fn.table_All_1) #[] #[x1, x2])] (fun x4 w =>
 binIntW .neq x4 (Value.int .i64 0) (fun x5 w =>
 condP x5 (fun w => K (Value.tuple #[(Value.slice none 0 0), x4]) w) (fun w => load1W x2 (fun x6 w =>
 CP Try.prog Fn.slices_SortFunc_api_Pair_api_Pair [x6, (Value.func (.func Fn.table_All_2) #[] #[])] (fun x7 w =>
 load1W x2 (fun x8 w =>
 K (Value.tuple #[x8, (Value.int .i64 0)]) w) w) w) w) w) w) w) w) w) w

theorem Q_table_All (a0 a1 : Value) (K : KV) : S_table_All a0 a1 K = P_table_All a0 a1 K := by
  unfold S_table_All P_table_All
  generalize @CP = y_CP
  generalize @binIntW = y_binIntW
  generalize @boxW = y_boxW
  generalize @condP = y_condP
  generalize @load1W = y_load1W
  generalize @newW = y_newW
  rfl

/-- slices_Clone_api_Cell_api_Cell -/
def P_slices_Clone_api_Cell_api_Cell (a0 : Value) (K : KV) : World → Prop := fun w =>
 eqNilSliceW .eql a0 (Value.slice none 0 0) (fun x1 w =>
 condP x1 (fun w => K (Value.slice none 0 0) w) (fun w => buildSliceW [(Value.int .i64 0), (Value.int .u64 0)] 0 [] (fun x2 w =>
 appendW 2 16 x2 a0 (fun x3 w =>
 K x3 w) w) w) w) w

theorem Q_slices_Clone_api_Cell_api_Cell (a0 : Value) (K : KV) : S_slices_Clone_api_Cell_api_Cell a0 K = P_slices_Clone_api_Cell_api_Cell a0 K := by
  unfold S_slices_Clone_api_Cell_api_Cell P_slices_Clone_api_Cell_api_Cell
  generalize @appendW = y_appendW
  generalize @buildSliceW = y_buildSliceW
  generalize @condP = y_condP
  generalize @eqNilSliceW = y_eqNilSliceW
  rfl

/-- view_New -/
def P_view_New (a0 a1 : Value) (K : KV) : World → Prop := fun w =>
 drewW (fun w => minW a0 [(Value.int .i64 256)] (fun x1 w =>
 maxW (Value.int .i64 32) [x1] (fun x2 w =>
 andP (fun w => makeSliceW 16 [(Value.int .u64 0), (Value.bool false)] x2 x2 (fun x3 w =>
 andP (fun w => trueP w) (fun w =>
 CP Try.prog Fn.levels_New [a1] (fun x4 w =>
 andP (fun w => trueP w) (fun w =>
 buildW [(Value.slice none 0 0), (Value.slice none 0 0), (Value.pointer none), (Value.int .i64 0)] [(0, 1, x3), (2, 1, x4)] (fun x5 w =>
 boxW x5 (fun x6 w =>
 andP (fun w => trueP w) (fun w =>
 K x6 w) w) w) w) w) w) w) w) (fun w => CP Try.prog Fn.levels_New [a1] (fun x7 w =>
 andP (fun w => trueP w) (fun w =>
 makeSliceW 16 [(Value.int .u64 0), (Value.bool false)] x2 x2 (fun x8 w =>
 andP (fun w => trueP w) (fun w =>
 buildW [(Value.slice none 0 0), (Value.slice none 0 0), (Value.pointer none), (Value.int .i64 0)] [(0, 1, x8), (2, 1, x7)] (fun x9 w =>
 boxW x9 (fun x10 w =>
 andP (fun w => trueP w) (fun w =>
 K x10 w) w) w) w) w) w) w) w) w) w) w) w

theorem Q_view_New (a0 a1 : Value) (K : KV) : S_view_New a0 a1 K = P_view_New a0 a1 K := by
  unfold S_view_New P_view_New
  generalize @CP = y_CP
  generalize @andP = y_andP
  generalize @boxW = y_boxW
  generalize @buildW = y_buildW
  generalize @drewW = y_drewW
  generalize @makeSliceW = y_makeSliceW
  generalize @maxW = y_maxW
  generalize @minW = y_minW
  rfl

/-- view_View_Size -/
def P_view_View_Size (a0 : Value) (K : KV) : World → Prop := fun w =>
 nilW a0 (fun x1 w =>
 addW 0 x1 (fun x2 w =>
 load1W x2 (fun x3 w =>
 lenW x3 (fun x4 w =>
 K x4 w) w) w) w) w

theorem Q_view_View_Size (a0 : Value) (K : KV) : S_view_View_Size a0 K = P_view_View_Size a0 K := by
  unfold S_view_View_Size P_view_View_Size
  generalize @addW = y_addW
  generalize @lenW = y_lenW
  generalize @load1W = y_load1W
  generalize @nilW = y_nilW
  rfl

/-- view_View_Know -/
def P_view_View_Know (a0 a1 a2 : Value) (K : KV) : World → Prop := fun w =>
 CP Try.prog Fn.view_View_is [a0, a1] (fun x1 w =>
 notW x1 (fun x2 w =>
 condP x2 (fun w => K (Value.int .i64 2) w) (fun w => nilW a0 (fun x3 w =>
 addW 0 x3 (fun x4 w =>
 load1W x4 (fun x5 w =>
 idxW 2 x5 a1 (fun x6 w =>
 loadNW 2 x6 (fun x7 w =>
 newW #[(Value.int .u64 0), (Value.bool false)] (fun x8 w =>
 storeW 2 x8 x7 (fun _ w =>
 addW 1 x8 (fun x10 w =>
 load1W x10 (fun x11 w =>
 condP x11 (fun w => addW 0 x8 (fun x12 w =>
 load1W x12 (fun x13 w =>
 binIntW .neq x13 a2 (fun x14 w =>
 condP x14 (fun w => K (Value.int .i64 14) w) (fun w => K (Value.int .i64 0) w) w) w) w) w) (fun w => nilW a0 (fun x15 w =>
 addW 0 x15 (fun x16 w =>
 load1W x16 (fun x17 w =>
 buildW [(Value.int .u64 0), (Value.bool false)] [(0, 1, a2), (1, 1, (Value.bool true))] (fun x18 w =>
 idxW 2 x17 a1 (fun x19 w =>
 storeW 2 x19 x18 (fun _ w =>
 nilW a0 (fun x21 w =>
 addW 1 x21 (fun x22 w =>
 load1W x22 (fun x23 w =>
 buildSliceW [(Value.int .i64 0)] 1 [(0, 1, a1)] (fun x24 w =>
 appendW 1 8 x23 x24 (fun x25 w =>
 nilW a0 (fun x26 w =>
 addW 1 x26 (fun x27 w =>
 storeW 1 x27 x25 (fun _ w =>
 K (Value.int .i64 0) w) w) w) w) w) w) w) w) w) w) w) w) w) w) w) w) w) w) w) w) w) w) w) w) w) w) w) w

theorem Q_view_View_Know (a0 a1 a2 : Value) (K : KV) : S_view_View_Know a0 a1 a2 K = P_view_View_Know a0 a1 a2 K := by
  unfold S_view_View_Know P_view_View_Know
  generalize @CP = y_CP
  generalize @addW = y_addW
  generalize @appendW = y_appendW
  generalize @binIntW = y_binIntW
  generalize @buildSliceW = y_buildSliceW
  generalize @buildW = y_buildW
  generalize @condP = y_condP
  generalize @idxW = y_idxW
  generalize @load1W = y_load1W
  generalize @loadNW = y_loadNW
  generalize @newW = y_newW
  generalize @nilW = y_nilW
  generalize @notW = y_notW
  generalize @storeW = y_storeW
  rfl

/-- draft_Do -/
def P_draft_Do (a0 a1 a2 : Value) (K : KV) : World → Prop := fun w =>
 binIntW .lss a1 (Value.int .i64 6) (fun x1 w =>
 gW x1 false (fun K w => K a1 w) (fun x2 w =>
 gW x1 false (fun K w => binIntW .geq x2 (Value.int .i64 14) K w) (fun x3 w =>
 pickW x1 (Value.bool true) x3 (fun x4 w =>
 condP x4 (fun w => K (Value.int .i64 2) w) (fun w => CP Try.prog Fn.draft_of [a0] (fun x5 w =>
 buildW [(Value.pointer none), (Value.int .i64 0), (Value.int .i64 0)] [(0, 1, x5)] (fun x6 w =>
 boxW x6 (fun x7 w =>
 dynW Try.prog a2 [x7] (fun x8 w =>
 nilW x7 (fun x9 w =>
 addW 1 x9 (fun x10 w =>
 load1W x10 (fun x11 w =>
 binIntW .eql x11 (Value.int .i64 11) (fun x12 w =>
 condP x12 (fun w => nilW x7 (fun x13 w =>
 addW 0 x13 (fun x14 w =>
 load1W x14 (fun x15 w =>
 CP Try.prog Fn.view_View_Need [x15] (fun x16 w =>
 CP Try.prog Fn.view_View_Read [a0, x16] (fun x17 w =>
 extractW 0 x17 (fun x18 w =>
 extractW 1 x17 (fun x19 w =>
 K x19 w) w) w) w) w) w) w) w) (fun w => nilW x7 (fun x20 w =>
 addW 1 x20 (fun x21 w =>
 load1W x21 (fun x22 w =>
 binIntW .neq x22 (Value.int .i64 0) (fun x23 w =>
 condP x23 (fun w => nilW x7 (fun x24 w =>
 addW 1 x24 (fun x25 w =>
 load1W x25 (fun x26 w =>
 K x26 w) w) w) w) (fun w => nilW x7 (fun x27 w =>
 addW 0 x27 (fun x28 w =>
 load1W x28 (fun x29 w =>
 CP Try.prog Fn.view_View_Cells [x29] (fun x30 w =>
 CP Try.prog Fn.view_View_Take [a0, x30] (fun x31 w =>
 binIntW .neq x31 (Value.int .i64 0) (fun x32 w =>
 condP x32 (fun w => K x31 w) (fun w => nilW x7 (fun x33 w =>
 addW 0 x33 (fun x34 w =>
 load1W x34 (fun x35 w =>
 CP Try.prog Fn.view_View_Frees [x35] (fun x36 w =>
 lenW x36 (fun x37 w =>
 loopW1 (Value.int .i64 0) (fun J1 x38 w =>
 binIntW .lss x38 x37 (fun x39 w =>
 condP x39 (fun w => idxW 1 x36 x38 (fun x40 w =>
 load1W x40 (fun x41 w =>
 CP Try.prog Fn.view_View_Free [a0, x41] (fun x42 w =>
 binIntW .add x38 (Value.int .i64 1) (fun x43 w =>
 J1 x43 w) w) w) w) w) (fun w => K (Value.int .i64 0) w) w) w) w) w) w) w) w) w) w) w) w) w) w) w) w) w) w) w) w) w) w) w) w) w) w) w) w) w) w) w) w) w) w) w

theorem Q_draft_Do (a0 a1 a2 : Value) (K : KV) : S_draft_Do a0 a1 a2 K = P_draft_Do a0 a1 a2 K := by
  unfold S_draft_Do P_draft_Do
  generalize @CP = y_CP
  generalize @addW = y_addW
  generalize @binIntW = y_binIntW
  generalize @boxW = y_boxW
  generalize @buildW = y_buildW
  generalize @condP = y_condP
  generalize @dynW = y_dynW
  generalize @extractW = y_extractW
  generalize @gW = y_gW
  generalize @idxW = y_idxW
  generalize @lenW = y_lenW
  generalize @load1W = y_load1W
  generalize @loopW1 = y_loopW1
  generalize @nilW = y_nilW
  generalize @pickW = y_pickW
  rfl

/-- table_Put_1 -/
def P_table_Put_1 (a0 a1 a2 a3 a4 : Value) (K : KV) : World → Prop := fun w =>
 load1W a1 (fun x1 w =>
 CP Try.prog Fn.table_open [a0, x1] (fun x2 w =>
 CP Try.prog Fn.draft_Draft_OK [a0] (fun x3 w =>
 gW x3 true (fun K w => K x2 w) (fun x4 w =>
 gW x3 true (fun K w => nilW x4 K w) (fun x5 w =>
 gW x3 true (fun K w => addW 1 x5 K w) (fun x6 w =>
 gW x3 true (fun K w => load1W x6 K w) (fun x7 w =>
 gW x3 true (fun K w => binIntW .eql x7 (Value.int .i64 0) K w) (fun x8 w =>
 pickW x3 x8 (Value.bool false) (fun x9 w =>
 joinW1 (fun x10 w =>
 CP Try.prog Fn.draft_Draft_OK [a0] (fun x11 w =>
 notW x11 (fun x12 w =>
 condP x12 (fun w => K (Value.tuple #[]) w) (fun w => load1W a2 (fun x13 w =>
 CP Try.prog Fn.table_table_seek [x10, x13] (fun x14 w =>
 extractW 0 x14 (fun x15 w =>
 extractW 1 x14 (fun x16 w =>
 binIntW .neq x16 (Value.int .i64 0) (fun x17 w =>
 condP x17 (fun w => binIntW .add x16 (Value.int .i64 1) (fun x18 w =>
 load1W a3 (fun x19 w =>
 CP Try.prog Fn.draft_Draft_Write [a0, x18, x19] (fun x20 w =>
 K (Value.tuple #[]) w) w) w) w) (fun w => drewW (fun w => CP Try.prog Fn.draft_Draft_OK [a0] (fun x21 w =>
 andP (fun w => trueP w) (fun w =>
 gW x21 true (fun K w => K x10 w) (fun x22 w =>
 gW x21 true (fun K w => nilW x22 K w) (fun x23 w =>
 gW x21 true (fun K w => addW 4 x23 K w) (fun x24 w =>
 gW x21 true (fun K w => load1W x24 K w) (fun x25 w =>
 gW x21 true (fun K w => K x10 w) (fun x26 w =>
 gW x21 true (fun K w => nilW x26 K w) (fun x27 w =>
 gW x21 true (fun K w => addW 2 x27 K w) (fun x28 w =>
 gW x21 true (fun K w => load1W x28 K w) (fun x29 w =>
 gW x21 true (fun K w => convW .u64 x29 K w) (fun x30 w =>
 gW x21 true (fun K w => binIntW .geq x25 x30 K w) (fun x31 w =>
 pickW x21 x31 (Value.bool false) (fun x32 w =>
 gW x32 true (fun K w => K x10 w) (fun x33 w =>
 gW x32 true (fun K w => nilW x33 K w) (fun x34 w =>
 gW x32 true (fun K w => addW 2 x34 K w) (fun x35 w =>
 gW x32 true (fun K w => load1W x35 K w) (fun x36 w =>
 gW x32 true (fun K w => binIntW .lss x36 (Value.int .i64 16) K w) (fun x37 w =>
 pickW x32 x37 (Value.bool false) (fun x38 w =>
 joinW1 (fun x39 w =>
 CP Try.prog Fn.draft_Draft_Alloc [a0, (Value.int .i64 3)] (fun x40 w =>
 binIntW .add x40 (Value.int .i64 0) (fun x41 w =>
 load1W a2 (fun x42 w =>
 CP Try.prog Fn.draft_Draft_Write [a0, x41, x42] (fun x43 w =>
 binIntW .add x40 (Value.int .i64 1) (fun x44 w =>
 load1W a3 (fun x45 w =>
 CP Try.prog Fn.draft_Draft_Write [a0, x44, x45] (fun x46 w =>
 binIntW .add x40 (Value.int .i64 2) (fun x47 w =>
 CP Try.prog Fn.draft_Draft_Point [a0, x47, (Value.int .i64 0)] (fun x48 w =>
 CP Try.prog Fn.draft_Draft_Point [a0, x39, x40] (fun x49 w =>
 drewW (fun w => nilW x10 (fun x50 w =>
 addW 1 x50 (fun x51 w =>
 load1W x51 (fun x52 w =>
 binIntW .add x52 (Value.int .i64 0) (fun x53 w =>
 nilW x10 (fun x54 w =>
 addW 4 x54 (fun x55 w =>
 load1W x55 (fun x56 w =>
 binIntW .add x56 (Value.int .u64 1) (fun x57 w =>
 CP Try.prog Fn.draft_Draft_Write [a0, x53, x57] (fun x58 w =>
 andP (fun w => andP (fun w => trueP w) (fun w => andP (fun w => trueP w) (fun w => trueP w) w) w) (fun w =>
 storeW 1 a4 (Value.bool true) (fun _ w =>
 K (Value.tuple #[]) w) w) w) w) w) w) w) w) w) w) w) w) w) w) w) w) w) w) w) w) w) w) w) (fun j2 w =>
 condP x38 (fun w => CP Try.prog Fn.table_table_grow [x10] (fun x60 w =>
 load1W a2 (fun x61 w =>
 CP Try.prog Fn.table_table_seek [x10, x61] (fun x62 w =>
 extractW 0 x62 (fun x63 w =>
 extractW 1 x62 (fun x64 w =>
 j2 x63 w) w) w) w) w) w) (fun w => j2 x15 w) w) w) w) w) w) w) w) w) w) w) w) w) w) w) w) w) w) w) w) w) w) w) w) w) w) w) w) w) w) w) w) (fun j1 w =>
 condP x9 (fun w => load1W a1 (fun x65 w =>
 CP Try.prog Fn.table_made [a0, x65] (fun x66 w =>
 j1 x66 w) w) w) (fun w => j1 x2 w) w) w) w) w) w) w) w) w) w) w) w

theorem Q_table_Put_1 (a0 a1 a2 a3 a4 : Value) (K : KV) : S_table_Put_1 a0 a1 a2 a3 a4 K = P_table_Put_1 a0 a1 a2 a3 a4 K := by
  unfold S_table_Put_1 P_table_Put_1
  generalize @CP = y_CP
  generalize @addW = y_addW
  generalize @andP = y_andP
  generalize @binIntW = y_binIntW
  generalize @condP = y_condP
  generalize @convW = y_convW
  generalize @drewW = y_drewW
  generalize @extractW = y_extractW
  generalize @gW = y_gW
  generalize @joinW1 = y_joinW1
  generalize @load1W = y_load1W
  generalize @nilW = y_nilW
  generalize @notW = y_notW
  generalize @pickW = y_pickW
  generalize @storeW = y_storeW
  rfl

/-- table_open -/
def P_table_open (a0 a1 : Value) (K : KV) : World → Prop := fun w =>
 CP Try.prog Fn.draft_Draft_Place [a0, a1] (fun x1 w =>
 buildW [(Value.pointer none), (Value.int .i64 0), (Value.int .i64 0), (Value.int .i64 0), (Value.int .u64 0)] [(0, 1, a0), (1, 1, x1)] (fun x2 w =>
 boxW x2 (fun x3 w =>
 nilW x3 (fun x4 w =>
 addW 1 x4 (fun x5 w =>
 load1W x5 (fun x6 w =>
 binIntW .eql x6 (Value.int .i64 0) (fun x7 w =>
 condP x7 (fun w => K x3 w) (fun w => nilW x3 (fun x8 w =>
 addW 1 x8 (fun x9 w =>
 load1W x9 (fun x10 w =>
 binIntW .add x10 (Value.int .i64 0) (fun x11 w =>
 CP Try.prog Fn.draft_Draft_Read [a0, x11] (fun x12 w =>
 nilW x3 (fun x13 w =>
 addW 4 x13 (fun x14 w =>
 storeW 1 x14 x12 (fun _ w =>
 nilW x3 (fun x16 w =>
 addW 1 x16 (fun x17 w =>
 load1W x17 (fun x18 w =>
 binIntW .add x18 (Value.int .i64 1) (fun x19 w =>
 CP Try.prog Fn.draft_Draft_Read [a0, x19] (fun x20 w =>
 binIntW .lss x20 (Value.int .u64 2) (fun x21 w =>
 gW x21 false (fun K w => K x20 w) (fun x22 w =>
 gW x21 false (fun K w => binIntW .gtr x22 (Value.int .u64 16) K w) (fun x23 w =>
 pickW x21 (Value.bool true) x23 (fun x24 w =>
 gW x24 false (fun K w => K x20 w) (fun x25 w =>
 gW x24 false (fun K w => K x20 w) (fun x26 w =>
 gW x24 false (fun K w => binIntW .sub x26 (Value.int .u64 1) K w) (fun x27 w =>
 gW x24 false (fun K w => binIntW .and x25 x27 K w) (fun x28 w =>
 gW x24 false (fun K w => binIntW .neq x28 (Value.int .u64 0) K w) (fun x29 w =>
 pickW x24 (Value.bool true) x29 (fun x30 w =>
 joinW1 (fun x31 w =>
 convW .i64 x31 (fun x32 w =>
 nilW x3 (fun x33 w =>
 addW 1 x33 (fun x34 w =>
 load1W x34 (fun x35 w =>
 binIntW .add x35 (Value.int .i64 2) (fun x36 w =>
 CP Try.prog Fn.draft_Draft_Place [a0, x36] (fun x37 w =>
 nilW x3 (fun x38 w =>
 addW 2 x38 (fun x39 w =>
 storeW 1 x39 x32 (fun _ w =>
 nilW x3 (fun x41 w =>
 addW 3 x41 (fun x42 w =>
 storeW 1 x42 x37 (fun _ w =>
 K x3 w) w) w) w) w) w) w) w) w) w) w) w) w) (fun j1 w =>
 condP x30 (fun w => CP Try.prog Fn.draft_Draft_Fail [a0, (Value.int .i64 2)] (fun x44 w =>
 j1 (Value.int .u64 2) w) w) (fun w => j1 x20 w) w) w) w) w) w) w) w) w) w) w) w) w) w) w) w) w) w) w) w) w) w) w) w) w) w) w) w) w) w) w) w) w) w

theorem Q_table_open (a0 a1 : Value) (K : KV) : S_table_open a0 a1 K = P_table_open a0 a1 K := by
  unfold S_table_open P_table_open
  generalize @CP = y_CP
  generalize @addW = y_addW
  generalize @binIntW = y_binIntW
  generalize @boxW = y_boxW
  generalize @buildW = y_buildW
  generalize @condP = y_condP
  generalize @convW = y_convW
  generalize @gW = y_gW
  generalize @joinW1 = y_joinW1
  generalize @load1W = y_load1W
  generalize @nilW = y_nilW
  generalize @pickW = y_pickW
  generalize @storeW = y_storeW
  rfl

/-- draft_Draft_OK -/
def P_draft_Draft_OK (a0 : Value) (K : KV) : World → Prop := fun w =>
 nilW a0 (fun x1 w =>
 addW 1 x1 (fun x2 w =>
 load1W x2 (fun x3 w =>
 binIntW .eql x3 (Value.int .i64 0) (fun x4 w =>
 K x4 w) w) w) w) w

theorem Q_draft_Draft_OK (a0 : Value) (K : KV) : S_draft_Draft_OK a0 K = P_draft_Draft_OK a0 K := by
  unfold S_draft_Draft_OK P_draft_Draft_OK
  generalize @addW = y_addW
  generalize @binIntW = y_binIntW
  generalize @load1W = y_load1W
  generalize @nilW = y_nilW
  rfl

/-- table_made -/
def P_table_made (a0 a1 : Value) (K : KV) : World → Prop := fun w =>
 CP Try.prog Fn.draft_Draft_Alloc [a0, (Value.int .i64 3)] (fun x1 w =>
 CP Try.prog Fn.draft_Draft_Alloc [a0, (Value.int .i64 2)] (fun x2 w =>
 buildW [(Value.pointer none), (Value.int .i64 0), (Value.int .i64 0), (Value.int .i64 0), (Value.int .u64 0)] [(0, 1, a0), (1, 1, x1), (2, 1, (Value.int .i64 2)), (3, 1, x2)] (fun x3 w =>
 boxW x3 (fun x4 w =>
 loopW1 (Value.int .i64 0) (fun J1 x5 w =>
 binIntW .lss x5 (Value.int .i64 2) (fun x6 w =>
 condP x6 (fun w => nilW x4 (fun x7 w =>
 addW 3 x7 (fun x8 w =>
 load1W x8 (fun x9 w =>
 binIntW .add x9 x5 (fun x10 w =>
 CP Try.prog Fn.draft_Draft_Point [a0, x10, (Value.int .i64 0)] (fun x11 w =>
 binIntW .add x5 (Value.int .i64 1) (fun x12 w =>
 J1 x12 w) w) w) w) w) w) w) (fun w => nilW x4 (fun x13 w =>
 addW 1 x13 (fun x14 w =>
 load1W x14 (fun x15 w =>
 binIntW .add x15 (Value.int .i64 0) (fun x16 w =>
 CP Try.prog Fn.draft_Draft_Point [a0, x16, (Value.int .i64 0)] (fun x17 w =>
 nilW x4 (fun x18 w =>
 addW 1 x18 (fun x19 w =>
 load1W x19 (fun x20 w =>
 binIntW .add x20 (Value.int .i64 1) (fun x21 w =>
 CP Try.prog Fn.draft_Draft_Point [a0, x21, (Value.int .i64 2)] (fun x22 w =>
 drewW (fun w => nilW x4 (fun x23 w =>
 addW 1 x23 (fun x24 w =>
 load1W x24 (fun x25 w =>
 binIntW .add x25 (Value.int .i64 2) (fun x26 w =>
 nilW x4 (fun x27 w =>
 addW 3 x27 (fun x28 w =>
 load1W x28 (fun x29 w =>
 CP Try.prog Fn.draft_Draft_Point [a0, x26, x29] (fun x30 w =>
 andP (fun w => andP (fun w => trueP w) (fun w => andP (fun w => trueP w) (fun w => trueP w) w) w) (fun w =>
 nilW x4 (fun x31 w =>
 addW 1 x31 (fun x32 w =>
 load1W x32 (fun x33 w =>
 CP Try.prog Fn.draft_Draft_Point [a0, a1, x33] (fun x34 w =>
 K x4 w) w) w) w) w) w) w) w) w) w) w) w) w) w) w) w) w) w) w) w) w) w) w) w) w) w) w) w) w) w) w) w

theorem Q_table_made (a0 a1 : Value) (K : KV) : S_table_made a0 a1 K = P_table_made a0 a1 K := by
  unfold S_table_made P_table_made
  generalize @CP = y_CP
  generalize @addW = y_addW
  generalize @andP = y_andP
  generalize @binIntW = y_binIntW
  generalize @boxW = y_boxW
  generalize @buildW = y_buildW
  generalize @condP = y_condP
  generalize @drewW = y_drewW
  generalize @load1W = y_load1W
  generalize @loopW1 = y_loopW1
  generalize @nilW = y_nilW
  rfl

/-- table_table_seek -/
def P_table_table_seek (a0 a1 : Value) (K : KV) : World → Prop := fun w =>
 drewW (fun w => nilW a0 (fun x1 w =>
 addW 3 x1 (fun x2 w =>
 load1W x2 (fun x3 w =>
 nilW a0 (fun x4 w =>
 addW 2 x4 (fun x5 w =>
 load1W x5 (fun x6 w =>
 CP Try.prog Fn.table_chain [a1, x6] (fun x7 w =>
 andP (fun w => andP (fun w => trueP w) (fun w => andP (fun w => load1W x2 (fun v w => eqP v x3 w) w) (fun w => trueP w) w) w) (fun w =>
 binIntW .add x3 x7 (fun x8 w =>
 loopW1 x8 (fun J1 x9 w =>
 nilW a0 (fun x10 w =>
 addW 0 x10 (fun x11 w =>
 load1W x11 (fun x12 w =>
 CP Try.prog Fn.draft_Draft_Step [x12] (fun x13 w =>
 condP x13 (fun w => nilW a0 (fun x14 w =>
 addW 0 x14 (fun x15 w =>
 load1W x15 (fun x16 w =>
 CP Try.prog Fn.draft_Draft_Place [x16, x9] (fun x17 w =>
 binIntW .eql x17 (Value.int .i64 0) (fun x18 w =>
 gW x18 false (fun K w => K a0 w) (fun x19 w =>
 gW x18 false (fun K w => nilW x19 K w) (fun x20 w =>
 gW x18 false (fun K w => addW 0 x20 K w) (fun x21 w =>
 gW x18 false (fun K w => load1W x21 K w) (fun x22 w =>
 gW x18 false (fun K w => K x17 w) (fun x23 w =>
 gW x18 false (fun K w => binIntW .add x23 (Value.int .i64 0) K w) (fun x24 w =>
 gW x18 false (fun K w => CP Try.prog Fn.draft_Draft_Read [x22, x24] K w) (fun x25 w =>
 gW x18 false (fun K w => K a1 w) (fun x26 w =>
 gW x18 false (fun K w => binIntW .eql x25 x26 K w) (fun x27 w =>
 pickW x18 (Value.bool true) x27 (fun x28 w =>
 condP x28 (fun w => K (Value.tuple #[x9, x17]) w) (fun w => binIntW .add x17 (Value.int .i64 2) (fun x29 w =>
 J1 x29 w) w) w) w) w) w) w) w) w) w) w) w) w) w) w) w) w) w) (fun w => K (Value.tuple #[x9, (Value.int .i64 0)]) w) w) w) w) w) w) w) w) w) w) w) w) w) w) w) w) w

theorem Q_table_table_seek (a0 a1 : Value) (K : KV) : S_table_table_seek a0 a1 K = P_table_table_seek a0 a1 K := by
  unfold S_table_table_seek P_table_table_seek
  generalize @CP = y_CP
  generalize @addW = y_addW
  generalize @andP = y_andP
  generalize @binIntW = y_binIntW
  generalize @condP = y_condP
  generalize @drewW = y_drewW
  generalize @eqP = y_eqP
  generalize @gW = y_gW
  generalize @load1W = y_load1W
  generalize @loopW1 = y_loopW1
  generalize @nilW = y_nilW
  generalize @pickW = y_pickW
  rfl

/-- draft_Draft_Write -/
def P_draft_Draft_Write (a0 a1 a2 : Value) (K : KV) : World → Prop := fun w =>
 CP Try.prog Fn.draft_Draft_OK [a0] (fun x1 w =>
 joinW0 (fun  w =>
 K (Value.tuple #[]) w) (fun j1 w =>
 condP x1 (fun w => nilW a0 (fun x2 w =>
 addW 0 x2 (fun x3 w =>
 load1W x3 (fun x4 w =>
 CP Try.prog Fn.view_View_Write [x4, a1, a2] (fun x5 w =>
 CP Try.prog Fn.draft_Draft_Fail [a0, x5] (fun x6 w =>
 j1  w) w) w) w) w) w) (fun w => j1  w) w) w) w

theorem Q_draft_Draft_Write (a0 a1 a2 : Value) (K : KV) : S_draft_Draft_Write a0 a1 a2 K = P_draft_Draft_Write a0 a1 a2 K := by
  unfold S_draft_Draft_Write P_draft_Draft_Write
  generalize @CP = y_CP
  generalize @addW = y_addW
  generalize @condP = y_condP
  generalize @joinW0 = y_joinW0
  generalize @load1W = y_load1W
  generalize @nilW = y_nilW
  rfl

/-- table_table_grow -/
def P_table_table_grow (a0 : Value) (K : KV) : World → Prop := fun w =>
 boxW a0 (fun x1 w =>
 load1W x1 (fun x2 w =>
 nilW x2 (fun x3 w =>
 addW 2 x3 (fun x4 w =>
 load1W x4 (fun x5 w =>
 binIntW .mul (Value.int .i64 2) x5 (fun x6 w =>
 newW #[(Value.int .i64 0)] (fun x7 w =>
 storeW 1 x7 x6 (fun _ w =>
 load1W x7 (fun x9 w =>
 makeSliceW 8 [(Value.int .i64 0)] x9 x9 (fun x10 w =>
 newW #[(Value.slice none 0 0)] (fun x11 w =>
 storeW 1 x11 x10 (fun _ w =>
 drewW (fun w => load1W x1 (fun x13 w =>
 nilW x13 (fun x14 w =>
 addW 0 x14 (fun x15 w =>
 load1W x15 (fun x16 w =>
 load1W x7 (fun x17 w =>
 CP Try.prog Fn.draft_Draft_Alloc [x16, x17] (fun x18 w =>
 andP (fun w => andP (fun w => trueP w) (fun w => andP (fun w => trueP w) (fun w => andP (fun w => trueP w) (fun w => trueP w) w) w) w) (fun w =>
 load1W x1 (fun x19 w =>
 CP Try.prog Fn.table_table_each [x19, (Value.func (.func Fn.table_table_grow_1) #[] #[x1, x7, x11])] (fun x20 w =>
 load1W x11 (fun x21 w =>
 lenW x21 (fun x22 w =>
 loopW1 (Value.int .i64 0) (fun J1 x23 w =>
 binIntW .lss x23 x22 (fun x24 w =>
 condP x24 (fun w => idxW 1 x21 x23 (fun x25 w =>
 load1W x25 (fun x26 w =>
 load1W x1 (fun x27 w =>
 nilW x27 (fun x28 w =>
 addW 0 x28 (fun x29 w =>
 load1W x29 (fun x30 w =>
 binIntW .add x18 x23 (fun x31 w =>
 CP Try.prog Fn.draft_Draft_Point [x30, x31, x26] (fun x32 w =>
 binIntW .add x23 (Value.int .i64 1) (fun x33 w =>
 J1 x33 w) w) w) w) w) w) w) w) w) w) (fun w => drewW (fun w => load1W x1 (fun x34 w =>
 nilW x34 (fun x35 w =>
 addW 0 x35 (fun x36 w =>
 load1W x36 (fun x37 w =>
 load1W x1 (fun x38 w =>
 nilW x38 (fun x39 w =>
 addW 3 x39 (fun x40 w =>
 load1W x40 (fun x41 w =>
 CP Try.prog Fn.draft_Draft_Free [x37, x41] (fun x42 w =>
 andP (fun w => andP (fun w => trueP w) (fun w => andP (fun w => trueP w) (fun w => andP (fun w => trueP w) (fun w => andP (fun w => trueP w) (fun w => trueP w) w) w) w) w) (fun w =>
 drewW (fun w => load1W x1 (fun x43 w =>
 load1W x1 (fun x44 w =>
 load1W x7 (fun x45 w =>
 nilW x43 (fun x46 w =>
 addW 2 x46 (fun x47 w =>
 storeW 1 x47 x45 (fun _ w =>
 andP (fun w => andP (fun w => trueP w) (fun w => andP (fun w => load1W x1 (fun v w => eqP v x44 w) w) (fun w => andP (fun w => trueP w) (fun w => trueP w) w) w) w) (fun w =>
 nilW x44 (fun x49 w =>
 addW 3 x49 (fun x50 w =>
 storeW 1 x50 x18 (fun _ w =>
 andP (fun w => andP (fun w => trueP w) (fun w => trueP w) w) (fun w =>
 drewW (fun w => load1W x1 (fun x52 w =>
 nilW x52 (fun x53 w =>
 addW 0 x53 (fun x54 w =>
 load1W x54 (fun x55 w =>
 load1W x1 (fun x56 w =>
 nilW x56 (fun x57 w =>
 addW 1 x57 (fun x58 w =>
 load1W x58 (fun x59 w =>
 binIntW .add x59 (Value.int .i64 1) (fun x60 w =>
 load1W x7 (fun x61 w =>
 CP Try.prog Fn.draft_Draft_Point [x55, x60, x61] (fun x62 w =>
 andP (fun w => andP (fun w => trueP w) (fun w => andP (fun w => trueP w) (fun w => andP (fun w => trueP w) (fun w => andP (fun w => trueP w) (fun w => andP (fun w => trueP w) (fun w => trueP w) w) w) w) w) w) (fun w =>
 drewW (fun w => load1W x1 (fun x63 w =>
 nilW x63 (fun x64 w =>
 addW 0 x64 (fun x65 w =>
 load1W x65 (fun x66 w =>
 load1W x1 (fun x67 w =>
 nilW x67 (fun x68 w =>
 addW 1 x68 (fun x69 w =>
 load1W x69 (fun x70 w =>
 binIntW .add x70 (Value.int .i64 2) (fun x71 w =>
 CP Try.prog Fn.draft_Draft_Point [x66, x71, x18] (fun x72 w =>
 andP (fun w => andP (fun w => trueP w) (fun w => andP (fun w => trueP w) (fun w => andP (fun w => trueP w) (fun w => andP (fun w => trueP w) (fun w => trueP w) w) w) w) w) (fun w =>
 K (Value.tuple #[]) w) w) w) w) w) w) w) w) w) w) w) w) w) w) w) w) w) w) w) w) w) w) w) w) w) w) w) w) w) w) w) w) w) w) w) w) w) w) w) w) w) w) w) w) w) w) w) w) w) w) w) w) w) w) w) w) w) w) w) w) w) w) w) w) w) w) w) w) w) w) w) w) w) w) w) w

theorem Q_table_table_grow (a0 : Value) (K : KV) : S_table_table_grow a0 K = P_table_table_grow a0 K := by
  unfold S_table_table_grow P_table_table_grow
  generalize @CP = y_CP
  generalize @addW = y_addW
  generalize @andP = y_andP
  generalize @binIntW = y_binIntW
  generalize @boxW = y_boxW
  generalize @condP = y_condP
  generalize @drewW = y_drewW
  generalize @eqP = y_eqP
  generalize @idxW = y_idxW
  generalize @lenW = y_lenW
  generalize @load1W = y_load1W
  generalize @loopW1 = y_loopW1
  generalize @makeSliceW = y_makeSliceW
  generalize @newW = y_newW
  generalize @nilW = y_nilW
  generalize @storeW = y_storeW
  rfl

/-- draft_Draft_Alloc -/
def P_draft_Draft_Alloc (a0 a1 : Value) (K : KV) : World → Prop := fun w =>
 CP Try.prog Fn.draft_Draft_OK [a0] (fun x1 w =>
 notW x1 (fun x2 w =>
 condP x2 (fun w => K (Value.int .i64 0) w) (fun w => nilW a0 (fun x3 w =>
 addW 0 x3 (fun x4 w =>
 load1W x4 (fun x5 w =>
 CP Try.prog Fn.arena_Alloc [x5, a1] (fun x6 w =>
 extractW 0 x6 (fun x7 w =>
 extractW 1 x6 (fun x8 w =>
 CP Try.prog Fn.draft_Draft_Fail [a0, x8] (fun x9 w =>
 K x7 w) w) w) w) w) w) w) w) w) w) w

theorem Q_draft_Draft_Alloc (a0 a1 : Value) (K : KV) : S_draft_Draft_Alloc a0 a1 K = P_draft_Draft_Alloc a0 a1 K := by
  unfold S_draft_Draft_Alloc P_draft_Draft_Alloc
  generalize @CP = y_CP
  generalize @addW = y_addW
  generalize @condP = y_condP
  generalize @extractW = y_extractW
  generalize @load1W = y_load1W
  generalize @nilW = y_nilW
  generalize @notW = y_notW
  rfl

/-- draft_Draft_Point -/
def P_draft_Draft_Point (a0 a1 a2 : Value) (K : KV) : World → Prop := fun w =>
 convW .u64 a2 (fun x1 w =>
 CP Try.prog Fn.draft_Draft_Write [a0, a1, x1] (fun x2 w =>
 K (Value.tuple #[]) w) w) w

theorem Q_draft_Draft_Point (a0 a1 a2 : Value) (K : KV) : S_draft_Draft_Point a0 a1 a2 K = P_draft_Draft_Point a0 a1 a2 K := by
  unfold S_draft_Draft_Point P_draft_Draft_Point
  generalize @CP = y_CP
  generalize @convW = y_convW
  rfl

/-- table_Get_1 -/
def P_table_Get_1 (a0 a1 a2 a3 a4 : Value) (K : KV) : World → Prop := fun w =>
 load1W a1 (fun x1 w =>
 CP Try.prog Fn.table_open [a0, x1] (fun x2 w =>
 CP Try.prog Fn.draft_Draft_OK [a0] (fun x3 w =>
 notW x3 (fun x4 w =>
 gW x4 false (fun K w => K x2 w) (fun x5 w =>
 gW x4 false (fun K w => nilW x5 K w) (fun x6 w =>
 gW x4 false (fun K w => addW 1 x6 K w) (fun x7 w =>
 gW x4 false (fun K w => load1W x7 K w) (fun x8 w =>
 gW x4 false (fun K w => binIntW .eql x8 (Value.int .i64 0) K w) (fun x9 w =>
 pickW x4 (Value.bool true) x9 (fun x10 w =>
 condP x10 (fun w => K (Value.tuple #[]) w) (fun w => load1W a2 (fun x11 w =>
 CP Try.prog Fn.table_table_seek [x2, x11] (fun x12 w =>
 extractW 0 x12 (fun x13 w =>
 extractW 1 x12 (fun x14 w =>
 binIntW .neq x14 (Value.int .i64 0) (fun x15 w =>
 joinW0 (fun  w =>
 K (Value.tuple #[]) w) (fun j1 w =>
 condP x15 (fun w => binIntW .add x14 (Value.int .i64 1) (fun x16 w =>
 CP Try.prog Fn.draft_Draft_Read [a0, x16] (fun x17 w =>
 storeW 1 a3 x17 (fun _ w =>
 storeW 1 a4 (Value.bool true) (fun _ w =>
 j1  w) w) w) w) w) (fun w => j1  w) w) w) w) w) w) w) w) w) w) w) w) w) w) w) w) w) w) w

theorem Q_table_Get_1 (a0 a1 a2 a3 a4 : Value) (K : KV) : S_table_Get_1 a0 a1 a2 a3 a4 K = P_table_Get_1 a0 a1 a2 a3 a4 K := by
  unfold S_table_Get_1 P_table_Get_1
  generalize @CP = y_CP
  generalize @addW = y_addW
  generalize @binIntW = y_binIntW
  generalize @condP = y_condP
  generalize @extractW = y_extractW
  generalize @gW = y_gW
  generalize @joinW0 = y_joinW0
  generalize @load1W = y_load1W
  generalize @nilW = y_nilW
  generalize @notW = y_notW
  generalize @pickW = y_pickW
  generalize @storeW = y_storeW
  rfl

/-- draft_Draft_Read -/
def P_draft_Draft_Read (a0 a1 : Value) (K : KV) : World → Prop := fun w =>
 CP Try.prog Fn.draft_Draft_OK [a0] (fun x1 w =>
 notW x1 (fun x2 w =>
 condP x2 (fun w => K (Value.int .u64 0) w) (fun w => nilW a0 (fun x3 w =>
 addW 0 x3 (fun x4 w =>
 load1W x4 (fun x5 w =>
 CP Try.prog Fn.view_View_Read [x5, a1] (fun x6 w =>
 extractW 0 x6 (fun x7 w =>
 extractW 1 x6 (fun x8 w =>
 CP Try.prog Fn.draft_Draft_Fail [a0, x8] (fun x9 w =>
 K x7 w) w) w) w) w) w) w) w) w) w) w

theorem Q_draft_Draft_Read (a0 a1 : Value) (K : KV) : S_draft_Draft_Read a0 a1 K = P_draft_Draft_Read a0 a1 K := by
  unfold S_draft_Draft_Read P_draft_Draft_Read
  generalize @CP = y_CP
  generalize @addW = y_addW
  generalize @condP = y_condP
  generalize @extractW = y_extractW
  generalize @load1W = y_load1W
  generalize @nilW = y_nilW
  generalize @notW = y_notW
  rfl

/-- table_All_1 -/
def P_table_All_1 (a0 a1 a2 : Value) (K : KV) : World → Prop := fun w =>
 boxW a0 (fun x1 w =>
 load1W x1 (fun x2 w =>
 load1W a1 (fun x3 w =>
 CP Try.prog Fn.table_open [x2, x3] (fun x4 w =>
 load1W x1 (fun x5 w =>
 CP Try.prog Fn.draft_Draft_OK [x5] (fun x6 w =>
 notW x6 (fun x7 w =>
 gW x7 false (fun K w => K x4 w) (fun x8 w =>
 gW x7 false (fun K w => nilW x8 K w) (fun x9 w =>
 gW x7 false (fun K w => addW 1 x9 K w) (fun x10 w =>
 gW x7 false (fun K w => load1W x10 K w) (fun x11 w =>
 gW x7 false (fun K w => binIntW .eql x11 (Value.int .i64 0) K w) (fun x12 w =>
 pickW x7 (Value.bool true) x12 (fun x13 w =>
 condP x13 (fun w => K (Value.tuple #[]) w) (fun w => CP Try.prog Fn.table_table_each [x4, (Value.func (.func Fn.table_All_1_1) #[] #[a2, x1])] (fun x14 w =>
 K (Value.tuple #[]) w) w) w) w) w) w) w) w) w) w) w) w) w) w) w) w

theorem Q_table_All_1 (a0 a1 a2 : Value) (K : KV) : S_table_All_1 a0 a1 a2 K = P_table_All_1 a0 a1 a2 K := by
  unfold S_table_All_1 P_table_All_1
  generalize @CP = y_CP
  generalize @addW = y_addW
  generalize @binIntW = y_binIntW
  generalize @boxW = y_boxW
  generalize @condP = y_condP
  generalize @gW = y_gW
  generalize @load1W = y_load1W
  generalize @nilW = y_nilW
  generalize @notW = y_notW
  generalize @pickW = y_pickW
  rfl

/-- table_table_each -/
def P_table_table_each (a0 a1 : Value) (K : KV) : World → Prop := fun w =>
 nilW a0 (fun x1 w =>
 addW 2 x1 (fun x2 w =>
 load1W x2 (fun x3 w =>
 loopW1 (Value.int .i64 0) (fun J1 x4 w =>
 binIntW .lss x4 x3 (fun x5 w =>
 condP x5 (fun w => drewW (fun w => nilW a0 (fun x6 w =>
 addW 0 x6 (fun x7 w =>
 load1W x7 (fun x8 w =>
 nilW a0 (fun x9 w =>
 addW 3 x9 (fun x10 w =>
 load1W x10 (fun x11 w =>
 binIntW .add x11 x4 (fun x12 w =>
 CP Try.prog Fn.draft_Draft_Place [x8, x12] (fun x13 w =>
 andP (fun w => andP (fun w => trueP w) (fun w => andP (fun w => trueP w) (fun w => trueP w) w) w) (fun w =>
 loopW1 x13 (fun J2 x14 w =>
 binIntW .neq x14 (Value.int .i64 0) (fun x15 w =>
 gW x15 true (fun K w => K a0 w) (fun x16 w =>
 gW x15 true (fun K w => nilW x16 K w) (fun x17 w =>
 gW x15 true (fun K w => addW 0 x17 K w) (fun x18 w =>
 gW x15 true (fun K w => load1W x18 K w) (fun x19 w =>
 gW x15 true (fun K w => CP Try.prog Fn.draft_Draft_Step [x19] K w) (fun x20 w =>
 pickW x15 x20 (Value.bool false) (fun x21 w =>
 condP x21 (fun w => nilW a0 (fun x22 w =>
 addW 0 x22 (fun x23 w =>
 load1W x23 (fun x24 w =>
 binIntW .add x14 (Value.int .i64 2) (fun x25 w =>
 CP Try.prog Fn.draft_Draft_Place [x24, x25] (fun x26 w =>
 dynW Try.prog a1 [x14] (fun x27 w =>
 J2 x26 w) w) w) w) w) w) w) (fun w => binIntW .add x4 (Value.int .i64 1) (fun x28 w =>
 J1 x28 w) w) w) w) w) w) w) w) w) w) w) w) w) w) w) w) w) w) w) w) w) (fun w => K (Value.tuple #[]) w) w) w) w) w) w) w

theorem Q_table_table_each (a0 a1 : Value) (K : KV) : S_table_table_each a0 a1 K = P_table_table_each a0 a1 K := by
  unfold S_table_table_each P_table_table_each
  generalize @CP = y_CP
  generalize @addW = y_addW
  generalize @andP = y_andP
  generalize @binIntW = y_binIntW
  generalize @condP = y_condP
  generalize @drewW = y_drewW
  generalize @dynW = y_dynW
  generalize @gW = y_gW
  generalize @load1W = y_load1W
  generalize @loopW1 = y_loopW1
  generalize @nilW = y_nilW
  generalize @pickW = y_pickW
  rfl

/-- table_All_1_1 -/
def P_table_All_1_1 (a0 a1 a2 : Value) (K : KV) : World → Prop := fun w =>
 drewW (fun w => load1W a1 (fun x1 w =>
 load1W a2 (fun x2 w =>
 binIntW .add a0 (Value.int .i64 0) (fun x3 w =>
 load1W a2 (fun x4 w =>
 binIntW .add a0 (Value.int .i64 1) (fun x5 w =>
 CP Try.prog Fn.draft_Draft_Read [x2, x3] (fun x6 w =>
 andP (fun w => andP (fun w => load1W a2 (fun v w => eqP v x4 w) w) (fun w => andP (fun w => trueP w) (fun w => andP (fun w => load1W a1 (fun v w => eqP v x1 w) w) (fun w => trueP w) w) w) w) (fun w =>
 CP Try.prog Fn.draft_Draft_Read [x4, x5] (fun x7 w =>
 andP (fun w => andP (fun w => trueP w) (fun w => andP (fun w => load1W a1 (fun v w => eqP v x1 w) w) (fun w => trueP w) w) w) (fun w =>
 buildW [(Value.int .u64 0), (Value.int .u64 0)] [(0, 1, x6), (1, 1, x7)] (fun x8 w =>
 buildSliceW [(Value.int .u64 0), (Value.int .u64 0)] 1 [(0, 2, x8)] (fun x9 w =>
 andP (fun w => andP (fun w => load1W a1 (fun v w => eqP v x1 w) w) (fun w => trueP w) w) (fun w =>
 appendW 2 16 x1 x9 (fun x10 w =>
 andP (fun w => andP (fun w => trueP w) (fun w => trueP w) w) (fun w =>
 storeW 1 a1 x10 (fun _ w =>
 andP (fun w => trueP w) (fun w =>
 K (Value.tuple #[]) w) w) w) w) w) w) w) w) w) w) w) w) w) w) w) w) w) w

theorem Q_table_All_1_1 (a0 a1 a2 : Value) (K : KV) : S_table_All_1_1 a0 a1 a2 K = P_table_All_1_1 a0 a1 a2 K := by
  unfold S_table_All_1_1 P_table_All_1_1
  generalize @CP = y_CP
  generalize @andP = y_andP
  generalize @appendW = y_appendW
  generalize @binIntW = y_binIntW
  generalize @buildSliceW = y_buildSliceW
  generalize @buildW = y_buildW
  generalize @drewW = y_drewW
  generalize @eqP = y_eqP
  generalize @load1W = y_load1W
  generalize @storeW = y_storeW
  rfl

/-- slices_SortFunc_api_Pair_api_Pair -/
def P_slices_SortFunc_api_Pair_api_Pair (a0 a1 : Value) (K : KV) : World → Prop := fun w =>
 lenW a0 (fun x1 w =>
 convW .u64 x1 (fun x2 w =>
 CP Try.prog Fn.math_bits_Len [x2] (fun x3 w =>
 CP Try.prog Fn.slices_pdqsortCmpFunc_api_Pair [a0, (Value.int .i64 0), x1, x3, a1] (fun x4 w =>
 K (Value.tuple #[]) w) w) w) w) w

theorem Q_slices_SortFunc_api_Pair_api_Pair (a0 a1 : Value) (K : KV) : S_slices_SortFunc_api_Pair_api_Pair a0 a1 K = P_slices_SortFunc_api_Pair_api_Pair a0 a1 K := by
  unfold S_slices_SortFunc_api_Pair_api_Pair P_slices_SortFunc_api_Pair_api_Pair
  generalize @CP = y_CP
  generalize @convW = y_convW
  generalize @lenW = y_lenW
  rfl

/-- table_All_2 -/
def P_table_All_2 (a0 a1 : Value) (K : KV) : World → Prop := fun w =>
 boxW a0 (fun x1 w =>
 boxW a1 (fun x2 w =>
 addW 0 x1 (fun x3 w =>
 load1W x3 (fun x4 w =>
 addW 0 x2 (fun x5 w =>
 load1W x5 (fun x6 w =>
 CP Try.prog Fn.cmp_Compare_uint64 [x4, x6] (fun x7 w =>
 K x7 w) w) w) w) w) w) w) w

theorem Q_table_All_2 (a0 a1 : Value) (K : KV) : S_table_All_2 a0 a1 K = P_table_All_2 a0 a1 K := by
  unfold S_table_All_2 P_table_All_2
  generalize @CP = y_CP
  generalize @addW = y_addW
  generalize @boxW = y_boxW
  generalize @load1W = y_load1W
  rfl

/-- cmp_Compare_uint64 -/
def P_cmp_Compare_uint64 (a0 a1 : Value) (K : KV) : World → Prop := fun w =>
 CP Try.prog Fn.cmp_isNaN_uint64 [a0] (fun x1 w =>
 CP Try.prog Fn.cmp_isNaN_uint64 [a1] (fun x2 w =>
 condP x1 (fun w => condP x2 (fun w => K (Value.int .i64 0) w) (fun w => K (Value.int .i64 (-1)) w) w) (fun w => condP x2 (fun w => K (Value.int .i64 1) w) (fun w => binIntW .lss a0 a1 (fun x3 w =>
 condP x3 (fun w => K (Value.int .i64 (-1)) w) (fun w => binIntW .gtr a0 a1 (fun x4 w =>
 condP x4 (fun w => K (Value.int .i64 1) w) (fun w => K (Value.int .i64 0) w) w) w) w) w) w) w) w) w

theorem Q_cmp_Compare_uint64 (a0 a1 : Value) (K : KV) : S_cmp_Compare_uint64 a0 a1 K = P_cmp_Compare_uint64 a0 a1 K := by
  unfold S_cmp_Compare_uint64 P_cmp_Compare_uint64
  generalize @CP = y_CP
  generalize @binIntW = y_binIntW
  generalize @condP = y_condP
  rfl

/-- levels_New -/
def P_levels_New (a0 : Value) (K : KV) : World → Prop := fun w =>
 minW a0 [(Value.int .i64 96)] (fun x1 w =>
 maxW (Value.int .i64 0) [x1] (fun x2 w =>
 CP Try.prog Fn.levels_fresh [] (fun x3 w =>
 buildSliceW [(Value.pointer none)] 1 [(0, 1, x3)] (fun x4 w =>
 buildW [(Value.int .i64 0), (Value.slice none 0 0)] [(0, 1, x2), (1, 1, x4)] (fun x5 w =>
 boxW x5 (fun x6 w =>
 K x6 w) w) w) w) w) w) w

theorem Q_levels_New (a0 : Value) (K : KV) : S_levels_New a0 K = P_levels_New a0 K := by
  unfold S_levels_New P_levels_New
  generalize @CP = y_CP
  generalize @boxW = y_boxW
  generalize @buildSliceW = y_buildSliceW
  generalize @buildW = y_buildW
  generalize @maxW = y_maxW
  generalize @minW = y_minW
  rfl

/-- view_View_is -/
def P_view_View_is (a0 a1 : Value) (K : KV) : World → Prop := fun w =>
 binIntW .geq a1 (Value.int .i64 1) (fun x1 w =>
 gW x1 true (fun K w => K a1 w) (fun x2 w =>
 gW x1 true (fun K w => K a0 w) (fun x3 w =>
 gW x1 true (fun K w => nilW x3 K w) (fun x4 w =>
 gW x1 true (fun K w => addW 0 x4 K w) (fun x5 w =>
 gW x1 true (fun K w => load1W x5 K w) (fun x6 w =>
 gW x1 true (fun K w => lenW x6 K w) (fun x7 w =>
 gW x1 true (fun K w => binIntW .lss x2 x7 K w) (fun x8 w =>
 pickW x1 x8 (Value.bool false) (fun x9 w =>
 K x9 w) w) w) w) w) w) w) w) w) w

theorem Q_view_View_is (a0 a1 : Value) (K : KV) : S_view_View_is a0 a1 K = P_view_View_is a0 a1 K := by
  unfold S_view_View_is P_view_View_is
  generalize @addW = y_addW
  generalize @binIntW = y_binIntW
  generalize @gW = y_gW
  generalize @lenW = y_lenW
  generalize @load1W = y_load1W
  generalize @nilW = y_nilW
  generalize @pickW = y_pickW
  rfl

/-- draft_of -/
def P_draft_of (a0 : Value) (K : KV) : World → Prop := fun w =>
 CP Try.prog Fn.view_View_Size [a0] (fun x1 w =>
 CP Try.prog Fn.view_New [x1, (Value.int .i64 96)] (fun x2 w =>
 CP Try.prog Fn.view_View_Cells [a0] (fun x3 w =>
 lenW x3 (fun x4 w =>
 loopW1 (Value.int .i64 0) (fun J1 x5 w =>
 binIntW .lss x5 x4 (fun x6 w =>
 condP x6 (fun w => idxW 2 x3 x5 (fun x7 w =>
 loadNW 2 x7 (fun x8 w =>
 newW #[(Value.int .i64 0), (Value.int .u64 0)] (fun x9 w =>
 storeW 2 x9 x8 (fun _ w =>
 addW 0 x9 (fun x11 w =>
 load1W x11 (fun x12 w =>
 addW 1 x9 (fun x13 w =>
 load1W x13 (fun x14 w =>
 CP Try.prog Fn.view_View_Know [x2, x12, x14] (fun x15 w =>
 binIntW .add x5 (Value.int .i64 1) (fun x16 w =>
 J1 x16 w) w) w) w) w) w) w) w) w) w) w) (fun w => CP Try.prog Fn.view_View_Known [a0] (fun x17 w =>
 lenW x17 (fun x18 w =>
 loopW1 (Value.int .i64 0) (fun J2 x19 w =>
 binIntW .lss x19 x18 (fun x20 w =>
 condP x20 (fun w => idxW 2 x17 x19 (fun x21 w =>
 loadNW 2 x21 (fun x22 w =>
 newW #[(Value.int .i64 0), (Value.int .u64 0)] (fun x23 w =>
 storeW 2 x23 x22 (fun _ w =>
 addW 0 x23 (fun x25 w =>
 load1W x25 (fun x26 w =>
 addW 1 x23 (fun x27 w =>
 load1W x27 (fun x28 w =>
 CP Try.prog Fn.view_View_Know [x2, x26, x28] (fun x29 w =>
 binIntW .add x19 (Value.int .i64 1) (fun x30 w =>
 J2 x30 w) w) w) w) w) w) w) w) w) w) w) (fun w => K x2 w) w) w) w) w) w) w) w) w) w) w) w) w

theorem Q_draft_of (a0 : Value) (K : KV) : S_draft_of a0 K = P_draft_of a0 K := by
  unfold S_draft_of P_draft_of
  generalize @CP = y_CP
  generalize @addW = y_addW
  generalize @binIntW = y_binIntW
  generalize @condP = y_condP
  generalize @idxW = y_idxW
  generalize @lenW = y_lenW
  generalize @load1W = y_load1W
  generalize @loadNW = y_loadNW
  generalize @loopW1 = y_loopW1
  generalize @newW = y_newW
  generalize @storeW = y_storeW
  rfl

/-- view_View_Read -/
def P_view_View_Read (a0 a1 : Value) (K : KV) : World → Prop := fun w =>
 CP Try.prog Fn.view_View_is [a0, a1] (fun x1 w =>
 notW x1 (fun x2 w =>
 condP x2 (fun w => K (Value.tuple #[(Value.int .u64 0), (Value.int .i64 2)]) w) (fun w => nilW a0 (fun x3 w =>
 addW 2 x3 (fun x4 w =>
 load1W x4 (fun x5 w =>
 CP Try.prog Fn.levels_Levels_Get [x5, a1] (fun x6 w =>
 extractW 0 x6 (fun x7 w =>
 extractW 1 x6 (fun x8 w =>
 condP x8 (fun w => K (Value.tuple #[x7, (Value.int .i64 0)]) w) (fun w => nilW a0 (fun x9 w =>
 addW 0 x9 (fun x10 w =>
 load1W x10 (fun x11 w =>
 idxW 2 x11 a1 (fun x12 w =>
 loadNW 2 x12 (fun x13 w =>
 newW #[(Value.int .u64 0), (Value.bool false)] (fun x14 w =>
 storeW 2 x14 x13 (fun _ w =>
 addW 1 x14 (fun x16 w =>
 load1W x16 (fun x17 w =>
 condP x17 (fun w => addW 0 x14 (fun x18 w =>
 load1W x18 (fun x19 w =>
 K (Value.tuple #[x19, (Value.int .i64 0)]) w) w) w) (fun w => nilW a0 (fun x20 w =>
 addW 3 x20 (fun x21 w =>
 storeW 1 x21 a1 (fun _ w =>
 K (Value.tuple #[(Value.int .u64 0), (Value.int .i64 11)]) w) w) w) w) w) w) w) w) w) w) w) w) w) w) w) w) w) w) w) w) w) w) w) w

theorem Q_view_View_Read (a0 a1 : Value) (K : KV) : S_view_View_Read a0 a1 K = P_view_View_Read a0 a1 K := by
  unfold S_view_View_Read P_view_View_Read
  generalize @CP = y_CP
  generalize @addW = y_addW
  generalize @condP = y_condP
  generalize @extractW = y_extractW
  generalize @idxW = y_idxW
  generalize @load1W = y_load1W
  generalize @loadNW = y_loadNW
  generalize @newW = y_newW
  generalize @nilW = y_nilW
  generalize @notW = y_notW
  generalize @storeW = y_storeW
  rfl

/-- view_View_Need -/
def P_view_View_Need (a0 : Value) (K : KV) : World → Prop := fun w =>
 nilW a0 (fun x1 w =>
 addW 3 x1 (fun x2 w =>
 load1W x2 (fun x3 w =>
 K x3 w) w) w) w

theorem Q_view_View_Need (a0 : Value) (K : KV) : S_view_View_Need a0 K = P_view_View_Need a0 K := by
  unfold S_view_View_Need P_view_View_Need
  generalize @addW = y_addW
  generalize @load1W = y_load1W
  generalize @nilW = y_nilW
  rfl

/-- view_View_Take -/
def P_view_View_Take (a0 a1 : Value) (K : KV) : World → Prop := fun w =>
 lenW a1 (fun x1 w =>
 loopW1 (Value.int .i64 0) (fun J1 x2 w =>
 binIntW .lss x2 x1 (fun x3 w =>
 condP x3 (fun w => idxW 2 a1 x2 (fun x4 w =>
 loadNW 2 x4 (fun x5 w =>
 newW #[(Value.int .i64 0), (Value.int .u64 0)] (fun x6 w =>
 storeW 2 x6 x5 (fun _ w =>
 addW 0 x6 (fun x8 w =>
 load1W x8 (fun x9 w =>
 CP Try.prog Fn.view_View_is [a0, x9] (fun x10 w =>
 notW x10 (fun x11 w =>
 condP x11 (fun w => K (Value.int .i64 2) w) (fun w => binIntW .add x2 (Value.int .i64 1) (fun x12 w =>
 J1 x12 w) w) w) w) w) w) w) w) w) w) w) (fun w => nilW a0 (fun x13 w =>
 addW 2 x13 (fun x14 w =>
 load1W x14 (fun x15 w =>
 CP Try.prog Fn.levels_Levels_Take [x15, a1] (fun x16 w =>
 K x16 w) w) w) w) w) w) w) w) w

theorem Q_view_View_Take (a0 a1 : Value) (K : KV) : S_view_View_Take a0 a1 K = P_view_View_Take a0 a1 K := by
  unfold S_view_View_Take P_view_View_Take
  generalize @CP = y_CP
  generalize @addW = y_addW
  generalize @binIntW = y_binIntW
  generalize @condP = y_condP
  generalize @idxW = y_idxW
  generalize @lenW = y_lenW
  generalize @load1W = y_load1W
  generalize @loadNW = y_loadNW
  generalize @loopW1 = y_loopW1
  generalize @newW = y_newW
  generalize @nilW = y_nilW
  generalize @notW = y_notW
  generalize @storeW = y_storeW
  rfl

/-- view_View_Cells -/
def P_view_View_Cells (a0 : Value) (K : KV) : World → Prop := fun w =>
 nilW a0 (fun x1 w =>
 addW 2 x1 (fun x2 w =>
 load1W x2 (fun x3 w =>
 CP Try.prog Fn.levels_Levels_Cells [x3] (fun x4 w =>
 K x4 w) w) w) w) w

theorem Q_view_View_Cells (a0 : Value) (K : KV) : S_view_View_Cells a0 K = P_view_View_Cells a0 K := by
  unfold S_view_View_Cells P_view_View_Cells
  generalize @CP = y_CP
  generalize @addW = y_addW
  generalize @load1W = y_load1W
  generalize @nilW = y_nilW
  rfl

/-- view_View_Frees -/
def P_view_View_Frees (a0 : Value) (K : KV) : World → Prop := fun w =>
 nilW a0 (fun x1 w =>
 addW 2 x1 (fun x2 w =>
 load1W x2 (fun x3 w =>
 CP Try.prog Fn.levels_Levels_Frees [x3] (fun x4 w =>
 K x4 w) w) w) w) w

theorem Q_view_View_Frees (a0 : Value) (K : KV) : S_view_View_Frees a0 K = P_view_View_Frees a0 K := by
  unfold S_view_View_Frees P_view_View_Frees
  generalize @CP = y_CP
  generalize @addW = y_addW
  generalize @load1W = y_load1W
  generalize @nilW = y_nilW
  rfl

/-- view_View_Free -/
def P_view_View_Free (a0 a1 : Value) (K : KV) : World → Prop := fun w =>
 nilW a0 (fun x1 w =>
 addW 2 x1 (fun x2 w =>
 load1W x2 (fun x3 w =>
 CP Try.prog Fn.levels_Levels_Free [x3, a1] (fun x4 w =>
 K (Value.tuple #[]) w) w) w) w) w

theorem Q_view_View_Free (a0 a1 : Value) (K : KV) : S_view_View_Free a0 a1 K = P_view_View_Free a0 a1 K := by
  unfold S_view_View_Free P_view_View_Free
  generalize @CP = y_CP
  generalize @addW = y_addW
  generalize @load1W = y_load1W
  generalize @nilW = y_nilW
  rfl

/-- draft_Draft_Place -/
def P_draft_Draft_Place (a0 a1 : Value) (K : KV) : World → Prop := fun w =>
 CP Try.prog Fn.draft_Draft_Read [a0, a1] (fun x1 w =>
 CP Try.prog Fn.draft_Draft_Name [a0, x1] (fun x2 w =>
 K x2 w) w) w

theorem Q_draft_Draft_Place (a0 a1 : Value) (K : KV) : S_draft_Draft_Place a0 a1 K = P_draft_Draft_Place a0 a1 K := by
  unfold S_draft_Draft_Place P_draft_Draft_Place
  generalize @CP = y_CP
  rfl

/-- draft_Draft_Fail -/
def P_draft_Draft_Fail (a0 a1 : Value) (K : KV) : World → Prop := fun w =>
 CP Try.prog Fn.draft_Draft_OK [a0] (fun x1 w =>
 joinW0 (fun  w =>
 K (Value.tuple #[]) w) (fun j1 w =>
 condP x1 (fun w => nilW a0 (fun x2 w =>
 addW 1 x2 (fun x3 w =>
 storeW 1 x3 a1 (fun _ w =>
 j1  w) w) w) w) (fun w => j1  w) w) w) w

theorem Q_draft_Draft_Fail (a0 a1 : Value) (K : KV) : S_draft_Draft_Fail a0 a1 K = P_draft_Draft_Fail a0 a1 K := by
  unfold S_draft_Draft_Fail P_draft_Draft_Fail
  generalize @CP = y_CP
  generalize @addW = y_addW
  generalize @condP = y_condP
  generalize @joinW0 = y_joinW0
  generalize @nilW = y_nilW
  generalize @storeW = y_storeW
  rfl

/-- table_chain -/
def P_table_chain (a0 a1 : Value) (K : KV) : World → Prop := fun w =>
 binIntW .mul a0 (Value.int .u64 11400714819323198485) (fun x1 w =>
 binIntW .shr x1 (Value.int .u64 60) (fun x2 w =>
 convW .i64 x2 (fun x3 w =>
 binIntW .sub a1 (Value.int .i64 1) (fun x4 w =>
 binIntW .and x3 x4 (fun x5 w =>
 K x5 w) w) w) w) w) w

theorem Q_table_chain (a0 a1 : Value) (K : KV) : S_table_chain a0 a1 K = P_table_chain a0 a1 K := by
  unfold S_table_chain P_table_chain
  generalize @binIntW = y_binIntW
  generalize @convW = y_convW
  rfl

/-- draft_Draft_Step -/
def P_draft_Draft_Step (a0 : Value) (K : KV) : World → Prop := fun w =>
 nilW a0 (fun x1 w =>
 addW 2 x1 (fun x2 w =>
 load1W x2 (fun x3 w =>
 binIntW .add x3 (Value.int .i64 1) (fun x4 w =>
 nilW a0 (fun x5 w =>
 addW 2 x5 (fun x6 w =>
 storeW 1 x6 x4 (fun _ w =>
 nilW a0 (fun x8 w =>
 addW 2 x8 (fun x9 w =>
 load1W x9 (fun x10 w =>
 binIntW .gtr x10 (Value.int .i64 2048) (fun x11 w =>
 joinW0 (fun  w =>
 CP Try.prog Fn.draft_Draft_OK [a0] (fun x12 w =>
 K x12 w) w) (fun j1 w =>
 condP x11 (fun w => CP Try.prog Fn.draft_Draft_Fail [a0, (Value.int .i64 2)] (fun x13 w =>
 j1  w) w) (fun w => j1  w) w) w) w) w) w) w) w) w) w) w) w) w) w

theorem Q_draft_Draft_Step (a0 : Value) (K : KV) : S_draft_Draft_Step a0 K = P_draft_Draft_Step a0 K := by
  unfold S_draft_Draft_Step P_draft_Draft_Step
  generalize @CP = y_CP
  generalize @addW = y_addW
  generalize @binIntW = y_binIntW
  generalize @condP = y_condP
  generalize @joinW0 = y_joinW0
  generalize @load1W = y_load1W
  generalize @nilW = y_nilW
  generalize @storeW = y_storeW
  rfl

/-- view_View_Write -/
def P_view_View_Write (a0 a1 a2 : Value) (K : KV) : World → Prop := fun w =>
 CP Try.prog Fn.view_View_is [a0, a1] (fun x1 w =>
 notW x1 (fun x2 w =>
 condP x2 (fun w => K (Value.int .i64 2) w) (fun w => nilW a0 (fun x3 w =>
 addW 2 x3 (fun x4 w =>
 load1W x4 (fun x5 w =>
 CP Try.prog Fn.levels_Levels_Put [x5, a1, a2] (fun x6 w =>
 K x6 w) w) w) w) w) w) w) w

theorem Q_view_View_Write (a0 a1 a2 : Value) (K : KV) : S_view_View_Write a0 a1 a2 K = P_view_View_Write a0 a1 a2 K := by
  unfold S_view_View_Write P_view_View_Write
  generalize @CP = y_CP
  generalize @addW = y_addW
  generalize @condP = y_condP
  generalize @load1W = y_load1W
  generalize @nilW = y_nilW
  generalize @notW = y_notW
  rfl

/-- table_table_grow_1 -/
def P_table_table_grow_1 (a0 a1 a2 a3 : Value) (K : KV) : World → Prop := fun w =>
 drewW (fun w => load1W a1 (fun x1 w =>
 nilW x1 (fun x2 w =>
 addW 0 x2 (fun x3 w =>
 load1W x3 (fun x4 w =>
 binIntW .add a0 (Value.int .i64 0) (fun x5 w =>
 load1W a2 (fun x6 w =>
 CP Try.prog Fn.draft_Draft_Read [x4, x5] (fun x7 w =>
 andP (fun w => andP (fun w => load1W a2 (fun v w => eqP v x6 w) w) (fun w => andP (fun w => trueP w) (fun w => andP (fun w => trueP w) (fun w => trueP w) w) w) w) (fun w =>
 CP Try.prog Fn.table_chain [x7, x6] (fun x8 w =>
 andP (fun w => andP (fun w => trueP w) (fun w => trueP w) w) (fun w =>
 drewW (fun w => load1W a1 (fun x9 w =>
 nilW x9 (fun x10 w =>
 addW 0 x10 (fun x11 w =>
 load1W x11 (fun x12 w =>
 binIntW .add a0 (Value.int .i64 2) (fun x13 w =>
 load1W a3 (fun x14 w =>
 idxW 1 x14 x8 (fun x15 w =>
 load1W x15 (fun x16 w =>
 CP Try.prog Fn.draft_Draft_Point [x12, x13, x16] (fun x17 w =>
 andP (fun w => andP (fun w => trueP w) (fun w => andP (fun w => trueP w) (fun w => andP (fun w => trueP w) (fun w => andP (fun w => trueP w) (fun w => trueP w) w) w) w) w) (fun w =>
 load1W a3 (fun x18 w =>
 idxW 1 x18 x8 (fun x19 w =>
 storeW 1 x19 a0 (fun _ w =>
 K (Value.tuple #[]) w) w) w) w) w) w) w) w) w) w) w) w) w) w) w) w) w) w) w) w) w) w) w) w) w) w

theorem Q_table_table_grow_1 (a0 a1 a2 a3 : Value) (K : KV) : S_table_table_grow_1 a0 a1 a2 a3 K = P_table_table_grow_1 a0 a1 a2 a3 K := by
  unfold S_table_table_grow_1 P_table_table_grow_1
  generalize @CP = y_CP
  generalize @addW = y_addW
  generalize @andP = y_andP
  generalize @binIntW = y_binIntW
  generalize @drewW = y_drewW
  generalize @eqP = y_eqP
  generalize @idxW = y_idxW
  generalize @load1W = y_load1W
  generalize @nilW = y_nilW
  generalize @storeW = y_storeW
  rfl

/-- draft_Draft_Free -/
def P_draft_Draft_Free (a0 a1 : Value) (K : KV) : World → Prop := fun w =>
 CP Try.prog Fn.draft_Draft_OK [a0] (fun x1 w =>
 joinW0 (fun  w =>
 K (Value.tuple #[]) w) (fun j1 w =>
 condP x1 (fun w => nilW a0 (fun x2 w =>
 addW 0 x2 (fun x3 w =>
 load1W x3 (fun x4 w =>
 CP Try.prog Fn.arena_Free [x4, a1] (fun x5 w =>
 CP Try.prog Fn.draft_Draft_Fail [a0, x5] (fun x6 w =>
 j1  w) w) w) w) w) w) (fun w => j1  w) w) w) w

theorem Q_draft_Draft_Free (a0 a1 : Value) (K : KV) : S_draft_Draft_Free a0 a1 K = P_draft_Draft_Free a0 a1 K := by
  unfold S_draft_Draft_Free P_draft_Draft_Free
  generalize @CP = y_CP
  generalize @addW = y_addW
  generalize @condP = y_condP
  generalize @joinW0 = y_joinW0
  generalize @load1W = y_load1W
  generalize @nilW = y_nilW
  rfl

/-- arena_Alloc -/
def P_arena_Alloc (a0 a1 : Value) (K : KV) : World → Prop := fun w =>
 CP Try.prog Fn.arena_Class [a1] (fun x1 w =>
 binIntW .eql x1 (Value.int .i64 0) (fun x2 w =>
 condP x2 (fun w => K (Value.tuple #[(Value.int .i64 0), (Value.int .i64 3)]) w) (fun w => CP Try.prog Fn.arena_head [x1] (fun x3 w =>
 CP Try.prog Fn.view_View_Read [a0, x3] (fun x4 w =>
 extractW 0 x4 (fun x5 w =>
 extractW 1 x4 (fun x6 w =>
 binIntW .neq x6 (Value.int .i64 0) (fun x7 w =>
 condP x7 (fun w => K (Value.tuple #[(Value.int .i64 0), x6]) w) (fun w => binIntW .neq x5 (Value.int .u64 0) (fun x8 w =>
 condP x8 (fun w => CP Try.prog Fn.arena_again [a0, x1, x5] (fun x9 w =>
 extractW 0 x9 (fun x10 w =>
 extractW 1 x9 (fun x11 w =>
 K (Value.tuple #[x10, x11]) w) w) w) w) (fun w => CP Try.prog Fn.arena_grown [a0, x1] (fun x12 w =>
 extractW 0 x12 (fun x13 w =>
 extractW 1 x12 (fun x14 w =>
 K (Value.tuple #[x13, x14]) w) w) w) w) w) w) w) w) w) w) w) w) w) w) w

theorem Q_arena_Alloc (a0 a1 : Value) (K : KV) : S_arena_Alloc a0 a1 K = P_arena_Alloc a0 a1 K := by
  unfold S_arena_Alloc P_arena_Alloc
  generalize @CP = y_CP
  generalize @binIntW = y_binIntW
  generalize @condP = y_condP
  generalize @extractW = y_extractW
  rfl

/-- math_bits_Len -/
def P_math_bits_Len (a0 : Value) (K : KV) : World → Prop := fun w =>
 condP (Value.bool false) (fun w => convW .u32 a0 (fun x1 w =>
 CP Try.prog Fn.math_bits_Len32 [x1] (fun x2 w =>
 K x2 w) w) w) (fun w => CP Try.prog Fn.math_bits_Len64 [a0] (fun x3 w =>
 K x3 w) w) w

theorem Q_math_bits_Len (a0 : Value) (K : KV) : S_math_bits_Len a0 K = P_math_bits_Len a0 K := by
  unfold S_math_bits_Len P_math_bits_Len
  generalize @CP = y_CP
  generalize @condP = y_condP
  generalize @convW = y_convW
  rfl

/-- cmp_isNaN_uint64 -/
def P_cmp_isNaN_uint64 (a0 : Value) (K : KV) : World → Prop := fun w =>
 binIntW .neq a0 a0 (fun x1 w =>
 K x1 w) w

theorem Q_cmp_isNaN_uint64 (a0 : Value) (K : KV) : S_cmp_isNaN_uint64 a0 K = P_cmp_isNaN_uint64 a0 K := by
  unfold S_cmp_isNaN_uint64 P_cmp_isNaN_uint64
  generalize @binIntW = y_binIntW
  rfl

/-- levels_fresh -/
def P_levels_fresh (K : KV) : World → Prop := fun w =>
 CP Try.prog Fn.writes_New [(Value.int .i64 96)] (fun x1 w =>
 buildW [(Value.pointer none), (Value.slice none 0 0)] [(0, 1, x1)] (fun x2 w =>
 boxW x2 (fun x3 w =>
 K x3 w) w) w) w

theorem Q_levels_fresh (K : KV) : S_levels_fresh K = P_levels_fresh K := by
  unfold S_levels_fresh P_levels_fresh
  generalize @CP = y_CP
  generalize @boxW = y_boxW
  generalize @buildW = y_buildW
  rfl

/-- view_View_Known -/
def P_view_View_Known (a0 : Value) (K : KV) : World → Prop := fun w =>
 nilW a0 (fun x1 w =>
 addW 1 x1 (fun x2 w =>
 load1W x2 (fun x3 w =>
 lenW x3 (fun x4 w =>
 makeSliceW 16 [(Value.int .i64 0), (Value.int .u64 0)] (Value.int .i64 0) x4 (fun x5 w =>
 nilW a0 (fun x6 w =>
 addW 1 x6 (fun x7 w =>
 load1W x7 (fun x8 w =>
 lenW x8 (fun x9 w =>
 loopW2 x5 (Value.int .i64 0) (fun J1 x10 x11 w =>
 binIntW .lss x11 x9 (fun x12 w =>
 condP x12 (fun w => idxW 1 x8 x11 (fun x13 w =>
 load1W x13 (fun x14 w =>
 nilW a0 (fun x15 w =>
 addW 0 x15 (fun x16 w =>
 load1W x16 (fun x17 w =>
 idxW 2 x17 x14 (fun x18 w =>
 addW 0 x18 (fun x19 w =>
 load1W x19 (fun x20 w =>
 buildW [(Value.int .i64 0), (Value.int .u64 0)] [(0, 1, x14), (1, 1, x20)] (fun x21 w =>
 buildSliceW [(Value.int .i64 0), (Value.int .u64 0)] 1 [(0, 2, x21)] (fun x22 w =>
 appendW 2 16 x10 x22 (fun x23 w =>
 binIntW .add x11 (Value.int .i64 1) (fun x24 w =>
 J1 x23 x24 w) w) w) w) w) w) w) w) w) w) w) w) w) (fun w => K x10 w) w) w) w) w) w) w) w) w) w) w) w) w

theorem Q_view_View_Known (a0 : Value) (K : KV) : S_view_View_Known a0 K = P_view_View_Known a0 K := by
  unfold S_view_View_Known P_view_View_Known
  generalize @addW = y_addW
  generalize @appendW = y_appendW
  generalize @binIntW = y_binIntW
  generalize @buildSliceW = y_buildSliceW
  generalize @buildW = y_buildW
  generalize @condP = y_condP
  generalize @idxW = y_idxW
  generalize @lenW = y_lenW
  generalize @load1W = y_load1W
  generalize @loopW2 = y_loopW2
  generalize @makeSliceW = y_makeSliceW
  generalize @nilW = y_nilW
  rfl

/-- levels_Levels_Get -/
def P_levels_Levels_Get (a0 a1 : Value) (K : KV) : World → Prop := fun w =>
 boxW a1 (fun x1 w =>
 newW #[(Value.int .u64 0)] (fun x2 w =>
 newW #[(Value.bool false)] (fun x3 w =>
 nilW a0 (fun x4 w =>
 addW 1 x4 (fun x5 w =>
 load1W x5 (fun x6 w =>
 CP Try.prog Fn.slices_Backward_levels_level_levels_level [x6] (fun x7 w =>
 backW Fn.slices_Backward_levels_level_levels_level_1 x7 (fun J R x8 x9 w =>
 drewW (fun w => nilW x9 (fun x10 w =>
 addW 0 x10 (fun x11 w =>
 load1W x11 (fun x12 w =>
 load1W x1 (fun x13 w =>
 CP Try.prog Fn.writes_Writes_Get [x12, x13] (fun x14 w =>
 andP (fun w => andP (fun w => trueP w) (fun w => andP (fun w => trueP w) (fun w => trueP w) w) w) (fun w =>
 extractW 0 x14 (fun x15 w =>
 extractW 1 x14 (fun x16 w =>
 condP x16 (fun w => storeW 1 x2 x15 (fun _ w =>
 storeW 1 x3 (Value.bool true) (fun _ w =>
 R w) w) w) (fun w => J w) w) w) w) w) w) w) w) w) w) w) (fun K w =>
 storeW 1 x2 (Value.int .u64 0) (fun _ w =>
 storeW 1 x3 (Value.bool false) (fun _ w =>
 load1W x2 (fun x21 w =>
 load1W x3 (fun x22 w =>
 K (Value.tuple #[x21, x22]) w) w) w) w) w) (fun K w =>
 load1W x2 (fun x23 w =>
 load1W x3 (fun x24 w =>
 K (Value.tuple #[x23, x24]) w) w) w) K w) w) w) w) w) w) w) w

theorem Q_levels_Levels_Get (a0 a1 : Value) (K : KV) : S_levels_Levels_Get a0 a1 K = P_levels_Levels_Get a0 a1 K := by
  unfold S_levels_Levels_Get P_levels_Levels_Get
  generalize @CP = y_CP
  generalize @addW = y_addW
  generalize @andP = y_andP
  generalize @backW = y_backW
  generalize @boxW = y_boxW
  generalize @condP = y_condP
  generalize @drewW = y_drewW
  generalize @extractW = y_extractW
  generalize @load1W = y_load1W
  generalize @newW = y_newW
  generalize @nilW = y_nilW
  generalize @storeW = y_storeW
  rfl

/-- levels_Levels_Take -/
def P_levels_Levels_Take (a0 a1 : Value) (K : KV) : World → Prop := fun w =>
 CP Try.prog Fn.writes_New [(Value.int .i64 96)] (fun x1 w =>
 CP Try.prog Fn.levels_Levels_in [a0] (fun x2 w =>
 nilW x2 (fun x3 w =>
 addW 0 x3 (fun x4 w =>
 load1W x4 (fun x5 w =>
 CP Try.prog Fn.writes_Writes_All [x5] (fun x6 w =>
 CP Try.prog Fn.writes_Writes_Take [x1, x6] (fun x7 w =>
 lenW a1 (fun x8 w =>
 loopW1 (Value.int .i64 0) (fun J1 x9 w =>
 binIntW .lss x9 x8 (fun x10 w =>
 condP x10 (fun w => idxW 2 a1 x9 (fun x11 w =>
 loadNW 2 x11 (fun x12 w =>
 newW #[(Value.int .i64 0), (Value.int .u64 0)] (fun x13 w =>
 storeW 2 x13 x12 (fun _ w =>
 addW 0 x13 (fun x15 w =>
 load1W x15 (fun x16 w =>
 addW 1 x13 (fun x17 w =>
 load1W x17 (fun x18 w =>
 CP Try.prog Fn.levels_Levels_Put [a0, x16, x18] (fun x19 w =>
 binIntW .neq x19 (Value.int .i64 0) (fun x20 w =>
 condP x20 (fun w => CP Try.prog Fn.levels_Levels_in [a0] (fun x21 w =>
 nilW x21 (fun x22 w =>
 addW 0 x22 (fun x23 w =>
 storeW 1 x23 x1 (fun _ w =>
 K x19 w) w) w) w) w) (fun w => binIntW .add x9 (Value.int .i64 1) (fun x25 w =>
 J1 x25 w) w) w) w) w) w) w) w) w) w) w) w) w) (fun w => K (Value.int .i64 0) w) w) w) w) w) w) w) w) w) w) w) w

theorem Q_levels_Levels_Take (a0 a1 : Value) (K : KV) : S_levels_Levels_Take a0 a1 K = P_levels_Levels_Take a0 a1 K := by
  unfold S_levels_Levels_Take P_levels_Levels_Take
  generalize @CP = y_CP
  generalize @addW = y_addW
  generalize @binIntW = y_binIntW
  generalize @condP = y_condP
  generalize @idxW = y_idxW
  generalize @lenW = y_lenW
  generalize @load1W = y_load1W
  generalize @loadNW = y_loadNW
  generalize @loopW1 = y_loopW1
  generalize @newW = y_newW
  generalize @nilW = y_nilW
  generalize @storeW = y_storeW
  rfl

/-- levels_Levels_Cells -/
def P_levels_Levels_Cells (a0 : Value) (K : KV) : World → Prop := fun w =>
 newW #[(Value.slice none 0 0)] (fun x1 w =>
 nilW a0 (fun x2 w =>
 addW 1 x2 (fun x3 w =>
 load1W x3 (fun x4 w =>
 CP Try.prog Fn.slices_Backward_levels_level_levels_level [x4] (fun x5 w =>
 backW Fn.slices_Backward_levels_level_levels_level_1 x5 (fun J R x6 x7 w =>
 CP Try.prog Fn.writes_New [(Value.int .i64 96)] (fun x8 w =>
 nilW x7 (fun x9 w =>
 addW 0 x9 (fun x10 w =>
 load1W x10 (fun x11 w =>
 CP Try.prog Fn.writes_Writes_All [x11] (fun x12 w =>
 CP Try.prog Fn.writes_Writes_Take [x8, x12] (fun x13 w =>
 load1W x1 (fun x14 w =>
 CP Try.prog Fn.writes_Writes_Take [x8, x14] (fun x15 w =>
 CP Try.prog Fn.writes_Writes_All [x8] (fun x16 w =>
 storeW 1 x1 x16 (fun _ w =>
 J w) w) w) w) w) w) w) w) w) w) w) (fun K w =>
 load1W x1 (fun x18 w =>
 K x18 w) w) (fun K w =>
 K (Value.slice none 0 0) w) K w) w) w) w) w) w

theorem Q_levels_Levels_Cells (a0 : Value) (K : KV) : S_levels_Levels_Cells a0 K = P_levels_Levels_Cells a0 K := by
  unfold S_levels_Levels_Cells P_levels_Levels_Cells
  generalize @CP = y_CP
  generalize @addW = y_addW
  generalize @backW = y_backW
  generalize @load1W = y_load1W
  generalize @newW = y_newW
  generalize @nilW = y_nilW
  generalize @storeW = y_storeW
  rfl

/-- levels_Levels_Frees -/
def P_levels_Levels_Frees (a0 : Value) (K : KV) : World → Prop := fun w =>
 nilW a0 (fun x1 w =>
 addW 1 x1 (fun x2 w =>
 load1W x2 (fun x3 w =>
 lenW x3 (fun x4 w =>
 loopW2 (Value.slice none 0 0) (Value.int .i64 0) (fun J1 x5 x6 w =>
 binIntW .lss x6 x4 (fun x7 w =>
 condP x7 (fun w => idxW 1 x3 x6 (fun x8 w =>
 load1W x8 (fun x9 w =>
 nilW x9 (fun x10 w =>
 addW 1 x10 (fun x11 w =>
 load1W x11 (fun x12 w =>
 appendW 1 8 x5 x12 (fun x13 w =>
 binIntW .add x6 (Value.int .i64 1) (fun x14 w =>
 J1 x13 x14 w) w) w) w) w) w) w) w) (fun w => K x5 w) w) w) w) w) w) w) w

theorem Q_levels_Levels_Frees (a0 : Value) (K : KV) : S_levels_Levels_Frees a0 K = P_levels_Levels_Frees a0 K := by
  unfold S_levels_Levels_Frees P_levels_Levels_Frees
  generalize @addW = y_addW
  generalize @appendW = y_appendW
  generalize @binIntW = y_binIntW
  generalize @condP = y_condP
  generalize @idxW = y_idxW
  generalize @lenW = y_lenW
  generalize @load1W = y_load1W
  generalize @loopW2 = y_loopW2
  generalize @nilW = y_nilW
  rfl

/-- levels_Levels_Free -/
def P_levels_Levels_Free (a0 a1 : Value) (K : KV) : World → Prop := fun w =>
 CP Try.prog Fn.levels_Levels_in [a0] (fun x1 w =>
 nilW x1 (fun x2 w =>
 addW 1 x2 (fun x3 w =>
 load1W x3 (fun x4 w =>
 buildSliceW [(Value.int .i64 0)] 1 [(0, 1, a1)] (fun x5 w =>
 appendW 1 8 x4 x5 (fun x6 w =>
 nilW x1 (fun x7 w =>
 addW 1 x7 (fun x8 w =>
 storeW 1 x8 x6 (fun _ w =>
 K (Value.tuple #[]) w) w) w) w) w) w) w) w) w) w

theorem Q_levels_Levels_Free (a0 a1 : Value) (K : KV) : S_levels_Levels_Free a0 a1 K = P_levels_Levels_Free a0 a1 K := by
  unfold S_levels_Levels_Free P_levels_Levels_Free
  generalize @CP = y_CP
  generalize @addW = y_addW
  generalize @appendW = y_appendW
  generalize @buildSliceW = y_buildSliceW
  generalize @load1W = y_load1W
  generalize @nilW = y_nilW
  generalize @storeW = y_storeW
  rfl

/-- draft_Draft_Name -/
def P_draft_Draft_Name (a0 a1 : Value) (K : KV) : World → Prop := fun w =>
 binIntW .geq a1 (Value.int .u64 2147483648) (fun x1 w =>
 condP x1 (fun w => CP Try.prog Fn.draft_Draft_Fail [a0, (Value.int .i64 2)] (fun x2 w =>
 K (Value.int .i64 0) w) w) (fun w => convW .i64 a1 (fun x3 w =>
 K x3 w) w) w) w

theorem Q_draft_Draft_Name (a0 a1 : Value) (K : KV) : S_draft_Draft_Name a0 a1 K = P_draft_Draft_Name a0 a1 K := by
  unfold S_draft_Draft_Name P_draft_Draft_Name
  generalize @CP = y_CP
  generalize @binIntW = y_binIntW
  generalize @condP = y_condP
  generalize @convW = y_convW
  rfl

/-- levels_Levels_Put -/
def P_levels_Levels_Put (a0 a1 a2 : Value) (K : KV) : World → Prop := fun w =>
 binIntW .lss a1 (Value.int .i64 1) (fun x1 w =>
 gW x1 false (fun K w => K a1 w) (fun x2 w =>
 gW x1 false (fun K w => binIntW .geq x2 (Value.int .i64 256) K w) (fun x3 w =>
 pickW x1 (Value.bool true) x3 (fun x4 w =>
 condP x4 (fun w => K (Value.int .i64 2) w) (fun w => CP Try.prog Fn.levels_Levels_in [a0] (fun x5 w =>
 nilW x5 (fun x6 w =>
 addW 0 x6 (fun x7 w =>
 load1W x7 (fun x8 w =>
 CP Try.prog Fn.writes_Writes_Get [x8, a1] (fun x9 w =>
 extractW 0 x9 (fun x10 w =>
 extractW 1 x9 (fun x11 w =>
 notW x11 (fun x12 w =>
 gW x12 true (fun K w => K a0 w) (fun x13 w =>
 gW x12 true (fun K w => CP Try.prog Fn.levels_Levels_Room [x13] K w) (fun x14 w =>
 gW x12 true (fun K w => binIntW .eql x14 (Value.int .i64 0) K w) (fun x15 w =>
 pickW x12 x15 (Value.bool false) (fun x16 w =>
 condP x16 (fun w => K (Value.int .i64 5) w) (fun w => CP Try.prog Fn.writes_Writes_Put [x8, a1, a2] (fun x17 w =>
 K x17 w) w) w) w) w) w) w) w) w) w) w) w) w) w) w) w) w) w) w) w

theorem Q_levels_Levels_Put (a0 a1 a2 : Value) (K : KV) : S_levels_Levels_Put a0 a1 a2 K = P_levels_Levels_Put a0 a1 a2 K := by
  unfold S_levels_Levels_Put P_levels_Levels_Put
  generalize @CP = y_CP
  generalize @addW = y_addW
  generalize @binIntW = y_binIntW
  generalize @condP = y_condP
  generalize @extractW = y_extractW
  generalize @gW = y_gW
  generalize @load1W = y_load1W
  generalize @nilW = y_nilW
  generalize @notW = y_notW
  generalize @pickW = y_pickW
  rfl

/-- arena_Free -/
def P_arena_Free (a0 a1 : Value) (K : KV) : World → Prop := fun w =>
 CP Try.prog Fn.arena_asked [a0, a1] (fun x1 w =>
 extractW 0 x1 (fun x2 w =>
 extractW 1 x1 (fun x3 w =>
 extractW 2 x1 (fun x4 w =>
 binIntW .eql x4 (Value.int .i64 0) (fun x5 w =>
 gW x5 true (fun K w => K x3 w) (fun x6 w =>
 gW x5 true (fun K w => notW x6 K w) (fun x7 w =>
 pickW x5 x7 (Value.bool false) (fun x8 w =>
 joinW1 (fun x9 w =>
 binIntW .eql x9 (Value.int .i64 0) (fun x10 w =>
 joinW1 (fun x11 w =>
 binIntW .eql x11 (Value.int .i64 0) (fun x12 w =>
 joinW0 (fun  w =>
 K x11 w) (fun j3 w =>
 condP x12 (fun w => CP Try.prog Fn.view_View_Free [a0, a1] (fun x13 w =>
 j3  w) w) (fun w => j3  w) w) w) w) (fun j2 w =>
 condP x10 (fun w => binIntW .sub a1 (Value.int .i64 1) (fun x14 w =>
 convW .u64 x2 (fun x15 w =>
 buildW [(Value.int .i64 0), (Value.int .u64 0)] [(0, 1, x14), (1, 1, x15)] (fun x16 w =>
 buildSliceW [(Value.int .i64 0), (Value.int .u64 0)] 1 [(0, 2, x16)] (fun x17 w =>
 CP Try.prog Fn.view_View_Take [a0, x17] (fun x18 w =>
 j2 x18 w) w) w) w) w) w) (fun w => j2 x9 w) w) w) w) (fun j1 w =>
 condP x8 (fun w => j1 (Value.int .i64 2) w) (fun w => j1 x4 w) w) w) w) w) w) w) w) w) w) w

theorem Q_arena_Free (a0 a1 : Value) (K : KV) : S_arena_Free a0 a1 K = P_arena_Free a0 a1 K := by
  unfold S_arena_Free P_arena_Free
  generalize @CP = y_CP
  generalize @binIntW = y_binIntW
  generalize @buildSliceW = y_buildSliceW
  generalize @buildW = y_buildW
  generalize @condP = y_condP
  generalize @convW = y_convW
  generalize @extractW = y_extractW
  generalize @gW = y_gW
  generalize @joinW0 = y_joinW0
  generalize @joinW1 = y_joinW1
  generalize @notW = y_notW
  generalize @pickW = y_pickW
  rfl

/-- arena_Class -/
def P_arena_Class (a0 : Value) (K : KV) : World → Prop := fun w =>
 binIntW .lss a0 (Value.int .i64 1) (fun x1 w =>
 condP x1 (fun w => K (Value.int .i64 0) w) (fun w => loopW1 (Value.int .i64 1) (fun J1 x2 w =>
 binIntW .leq x2 (Value.int .i64 4) (fun x3 w =>
 condP x3 (fun w => CP Try.prog Fn.arena_Size [x2] (fun x4 w =>
 binIntW .geq x4 a0 (fun x5 w =>
 condP x5 (fun w => K x2 w) (fun w => binIntW .add x2 (Value.int .i64 1) (fun x6 w =>
 J1 x6 w) w) w) w) w) (fun w => K (Value.int .i64 0) w) w) w) w) w) w

theorem Q_arena_Class (a0 : Value) (K : KV) : S_arena_Class a0 K = P_arena_Class a0 K := by
  unfold S_arena_Class P_arena_Class
  generalize @CP = y_CP
  generalize @binIntW = y_binIntW
  generalize @condP = y_condP
  generalize @loopW1 = y_loopW1
  rfl

/-- arena_head -/
def P_arena_head (a0 : Value) (K : KV) : World → Prop := fun w =>
 binIntW .add (Value.int .i64 0) a0 (fun x1 w =>
 K x1 w) w

theorem Q_arena_head (a0 : Value) (K : KV) : S_arena_head a0 K = P_arena_head a0 K := by
  unfold S_arena_head P_arena_head
  generalize @binIntW = y_binIntW
  rfl

/-- arena_again -/
def P_arena_again (a0 a1 a2 : Value) (K : KV) : World → Prop := fun w =>
 binIntW .geq a2 (Value.int .u64 2147483648) (fun x1 w =>
 condP x1 (fun w => K (Value.tuple #[(Value.int .i64 0), (Value.int .i64 2)]) w) (fun w => convW .i64 a2 (fun x2 w =>
 CP Try.prog Fn.view_View_Read [a0, x2] (fun x3 w =>
 extractW 0 x3 (fun x4 w =>
 extractW 1 x3 (fun x5 w =>
 binIntW .eql x5 (Value.int .i64 0) (fun x6 w =>
 joinW1 (fun x7 w =>
 binIntW .neq x7 (Value.int .i64 0) (fun x8 w =>
 condP x8 (fun w => K (Value.tuple #[(Value.int .i64 0), x7]) w) (fun w => K (Value.tuple #[x2, (Value.int .i64 0)]) w) w) w) (fun j1 w =>
 condP x6 (fun w => CP Try.prog Fn.arena_head [a1] (fun x9 w =>
 buildW [(Value.int .i64 0), (Value.int .u64 0)] [(0, 1, x9), (1, 1, x4)] (fun x10 w =>
 binIntW .sub x2 (Value.int .i64 1) (fun x11 w =>
 binIntW .add a1 (Value.int .i64 8) (fun x12 w =>
 convW .u64 x12 (fun x13 w =>
 buildW [(Value.int .i64 0), (Value.int .u64 0)] [(0, 1, x11), (1, 1, x13)] (fun x14 w =>
 buildSliceW [(Value.int .i64 0), (Value.int .u64 0)] 2 [(0, 2, x10), (2, 2, x14)] (fun x15 w =>
 CP Try.prog Fn.view_View_Take [a0, x15] (fun x16 w =>
 j1 x16 w) w) w) w) w) w) w) w) w) (fun w => j1 x5 w) w) w) w) w) w) w) w) w) w

theorem Q_arena_again (a0 a1 a2 : Value) (K : KV) : S_arena_again a0 a1 a2 K = P_arena_again a0 a1 a2 K := by
  unfold S_arena_again P_arena_again
  generalize @CP = y_CP
  generalize @binIntW = y_binIntW
  generalize @buildSliceW = y_buildSliceW
  generalize @buildW = y_buildW
  generalize @condP = y_condP
  generalize @convW = y_convW
  generalize @extractW = y_extractW
  generalize @joinW1 = y_joinW1
  rfl

/-- arena_grown -/
def P_arena_grown (a0 a1 : Value) (K : KV) : World → Prop := fun w =>
 CP Try.prog Fn.view_View_Read [a0, (Value.int .i64 5)] (fun x1 w =>
 extractW 0 x1 (fun x2 w =>
 extractW 1 x1 (fun x3 w =>
 binIntW .neq x3 (Value.int .i64 0) (fun x4 w =>
 condP x4 (fun w => K (Value.tuple #[(Value.int .i64 0), x3]) w) (fun w => binIntW .lss x2 (Value.int .u64 14) (fun x5 w =>
 gW x5 false (fun K w => K x2 w) (fun x6 w =>
 gW x5 false (fun K w => binIntW .geq x6 (Value.int .u64 2147483648) K w) (fun x7 w =>
 pickW x5 (Value.bool true) x7 (fun x8 w =>
 gW x8 false (fun K w => K x2 w) (fun x9 w =>
 gW x8 false (fun K w => convW .i64 x9 K w) (fun x10 w =>
 gW x8 false (fun K w => binIntW .add x10 (Value.int .i64 1) K w) (fun x11 w =>
 gW x8 false (fun K w => K a1 w) (fun x12 w =>
 gW x8 false (fun K w => CP Try.prog Fn.arena_Size [x12] K w) (fun x13 w =>
 gW x8 false (fun K w => binIntW .add x11 x13 K w) (fun x14 w =>
 gW x8 false (fun K w => K a0 w) (fun x15 w =>
 gW x8 false (fun K w => CP Try.prog Fn.view_View_Size [x15] K w) (fun x16 w =>
 gW x8 false (fun K w => binIntW .gtr x14 x16 K w) (fun x17 w =>
 pickW x8 (Value.bool true) x17 (fun x18 w =>
 condP x18 (fun w => K (Value.tuple #[(Value.int .i64 0), (Value.int .i64 4)]) w) (fun w => convW .i64 x2 (fun x19 w =>
 binIntW .add x19 (Value.int .i64 1) (fun x20 w =>
 CP Try.prog Fn.arena_Size [a1] (fun x21 w =>
 binIntW .add x20 x21 (fun x22 w =>
 convW .u64 x22 (fun x23 w =>
 buildW [(Value.int .i64 0), (Value.int .u64 0)] [(0, 1, (Value.int .i64 5)), (1, 1, x23)] (fun x24 w =>
 binIntW .add a1 (Value.int .i64 8) (fun x25 w =>
 convW .u64 x25 (fun x26 w =>
 buildW [(Value.int .i64 0), (Value.int .u64 0)] [(0, 1, x19), (1, 1, x26)] (fun x27 w =>
 buildSliceW [(Value.int .i64 0), (Value.int .u64 0)] 2 [(0, 2, x24), (2, 2, x27)] (fun x28 w =>
 CP Try.prog Fn.view_View_Take [a0, x28] (fun x29 w =>
 binIntW .neq x29 (Value.int .i64 0) (fun x30 w =>
 condP x30 (fun w => K (Value.tuple #[(Value.int .i64 0), x29]) w) (fun w => binIntW .add x19 (Value.int .i64 1) (fun x31 w =>
 K (Value.tuple #[x31, (Value.int .i64 0)]) w) w) w) w) w) w) w) w) w) w) w) w) w) w) w) w) w) w) w) w) w) w) w) w) w) w) w) w) w) w) w) w) w) w) w

theorem Q_arena_grown (a0 a1 : Value) (K : KV) : S_arena_grown a0 a1 K = P_arena_grown a0 a1 K := by
  unfold S_arena_grown P_arena_grown
  generalize @CP = y_CP
  generalize @binIntW = y_binIntW
  generalize @buildSliceW = y_buildSliceW
  generalize @buildW = y_buildW
  generalize @condP = y_condP
  generalize @convW = y_convW
  generalize @extractW = y_extractW
  generalize @gW = y_gW
  generalize @pickW = y_pickW
  rfl

/-- writes_New -/
def P_writes_New (a0 : Value) (K : KV) : World → Prop := fun w =>
 minW a0 [(Value.int .i64 96)] (fun x1 w =>
 maxW (Value.int .i64 0) [x1] (fun x2 w =>
 buildW [(Value.int .i64 0), (Value.slice none 0 0)] [(0, 1, x2)] (fun x3 w =>
 boxW x3 (fun x4 w =>
 K x4 w) w) w) w) w

theorem Q_writes_New (a0 : Value) (K : KV) : S_writes_New a0 K = P_writes_New a0 K := by
  unfold S_writes_New P_writes_New
  generalize @boxW = y_boxW
  generalize @buildW = y_buildW
  generalize @maxW = y_maxW
  generalize @minW = y_minW
  rfl

/-- slices_Backward_levels_level_levels_level -/
def P_slices_Backward_levels_level_levels_level (a0 : Value) (K : KV) : World → Prop := fun w =>
 boxW a0 (fun x1 w =>
 K (Value.func (.func Fn.slices_Backward_levels_level_levels_level_1) #[] #[x1]) w) w

theorem Q_slices_Backward_levels_level_levels_level (a0 : Value) (K : KV) : S_slices_Backward_levels_level_levels_level a0 K = P_slices_Backward_levels_level_levels_level a0 K := by
  unfold S_slices_Backward_levels_level_levels_level P_slices_Backward_levels_level_levels_level
  generalize @boxW = y_boxW
  rfl

/-- writes_Writes_Get -/
def P_writes_Writes_Get (a0 a1 : Value) (K : KV) : World → Prop := fun w =>
 CP Try.prog Fn.writes_Writes_find [a0, a1] (fun x1 w =>
 binIntW .geq x1 (Value.int .i64 0) (fun x2 w =>
 condP x2 (fun w => nilW a0 (fun x3 w =>
 addW 1 x3 (fun x4 w =>
 load1W x4 (fun x5 w =>
 idxW 2 x5 x1 (fun x6 w =>
 addW 1 x6 (fun x7 w =>
 load1W x7 (fun x8 w =>
 K (Value.tuple #[x8, (Value.bool true)]) w) w) w) w) w) w) w) (fun w => K (Value.tuple #[(Value.int .u64 0), (Value.bool false)]) w) w) w) w

theorem Q_writes_Writes_Get (a0 a1 : Value) (K : KV) : S_writes_Writes_Get a0 a1 K = P_writes_Writes_Get a0 a1 K := by
  unfold S_writes_Writes_Get P_writes_Writes_Get
  generalize @CP = y_CP
  generalize @addW = y_addW
  generalize @binIntW = y_binIntW
  generalize @condP = y_condP
  generalize @idxW = y_idxW
  generalize @load1W = y_load1W
  generalize @nilW = y_nilW
  rfl

/-- writes_Writes_Take -/
def P_writes_Writes_Take (a0 a1 : Value) (K : KV) : World → Prop := fun w =>
 CP Try.prog Fn.writes_Writes_All [a0] (fun x1 w =>
 lenW a1 (fun x2 w =>
 loopW1 (Value.int .i64 0) (fun J1 x3 w =>
 binIntW .lss x3 x2 (fun x4 w =>
 condP x4 (fun w => idxW 2 a1 x3 (fun x5 w =>
 loadNW 2 x5 (fun x6 w =>
 newW #[(Value.int .i64 0), (Value.int .u64 0)] (fun x7 w =>
 storeW 2 x7 x6 (fun _ w =>
 addW 0 x7 (fun x9 w =>
 load1W x9 (fun x10 w =>
 addW 1 x7 (fun x11 w =>
 load1W x11 (fun x12 w =>
 CP Try.prog Fn.writes_Writes_Put [a0, x10, x12] (fun x13 w =>
 binIntW .neq x13 (Value.int .i64 0) (fun x14 w =>
 condP x14 (fun w => nilW a0 (fun x15 w =>
 addW 1 x15 (fun x16 w =>
 storeW 1 x16 x1 (fun _ w =>
 K x13 w) w) w) w) (fun w => binIntW .add x3 (Value.int .i64 1) (fun x18 w =>
 J1 x18 w) w) w) w) w) w) w) w) w) w) w) w) w) (fun w => K (Value.int .i64 0) w) w) w) w) w) w

theorem Q_writes_Writes_Take (a0 a1 : Value) (K : KV) : S_writes_Writes_Take a0 a1 K = P_writes_Writes_Take a0 a1 K := by
  unfold S_writes_Writes_Take P_writes_Writes_Take
  generalize @CP = y_CP
  generalize @addW = y_addW
  generalize @binIntW = y_binIntW
  generalize @condP = y_condP
  generalize @idxW = y_idxW
  generalize @lenW = y_lenW
  generalize @load1W = y_load1W
  generalize @loadNW = y_loadNW
  generalize @loopW1 = y_loopW1
  generalize @newW = y_newW
  generalize @nilW = y_nilW
  generalize @storeW = y_storeW
  rfl

/-- levels_Levels_in -/
def P_levels_Levels_in (a0 : Value) (K : KV) : World → Prop := fun w =>
 drewW (fun w => nilW a0 (fun x1 w =>
 addW 1 x1 (fun x2 w =>
 load1W x2 (fun x3 w =>
 nilW a0 (fun x4 w =>
 addW 1 x4 (fun x5 w =>
 load1W x5 (fun x6 w =>
 lenW x6 (fun x7 w =>
 binIntW .sub x7 (Value.int .i64 1) (fun x8 w =>
 idxW 1 x3 x8 (fun x9 w =>
 load1W x9 (fun x10 w =>
 K x10 w) w) w) w) w) w) w) w) w) w) w) w

theorem Q_levels_Levels_in (a0 : Value) (K : KV) : S_levels_Levels_in a0 K = P_levels_Levels_in a0 K := by
  unfold S_levels_Levels_in P_levels_Levels_in
  generalize @addW = y_addW
  generalize @binIntW = y_binIntW
  generalize @drewW = y_drewW
  generalize @idxW = y_idxW
  generalize @lenW = y_lenW
  generalize @load1W = y_load1W
  generalize @nilW = y_nilW
  rfl

/-- writes_Writes_All -/
def P_writes_Writes_All (a0 : Value) (K : KV) : World → Prop := fun w =>
 nilW a0 (fun x1 w =>
 addW 1 x1 (fun x2 w =>
 load1W x2 (fun x3 w =>
 CP Try.prog Fn.slices_Clone_api_Cell_api_Cell [x3] (fun x4 w =>
 K x4 w) w) w) w) w

theorem Q_writes_Writes_All (a0 : Value) (K : KV) : S_writes_Writes_All a0 K = P_writes_Writes_All a0 K := by
  unfold S_writes_Writes_All P_writes_Writes_All
  generalize @CP = y_CP
  generalize @addW = y_addW
  generalize @load1W = y_load1W
  generalize @nilW = y_nilW
  rfl

/-- levels_Levels_Room -/
def P_levels_Levels_Room (a0 : Value) (K : KV) : World → Prop := fun w =>
 nilW a0 (fun x1 w =>
 addW 0 x1 (fun x2 w =>
 load1W x2 (fun x3 w =>
 nilW a0 (fun x4 w =>
 addW 1 x4 (fun x5 w =>
 load1W x5 (fun x6 w =>
 lenW x6 (fun x7 w =>
 loopW2 x3 (Value.int .i64 0) (fun J1 x8 x9 w =>
 binIntW .lss x9 x7 (fun x10 w =>
 condP x10 (fun w => idxW 1 x6 x9 (fun x11 w =>
 load1W x11 (fun x12 w =>
 nilW x12 (fun x13 w =>
 addW 0 x13 (fun x14 w =>
 load1W x14 (fun x15 w =>
 CP Try.prog Fn.writes_Writes_Len [x15] (fun x16 w =>
 binIntW .sub x8 x16 (fun x17 w =>
 binIntW .add x9 (Value.int .i64 1) (fun x18 w =>
 J1 x17 x18 w) w) w) w) w) w) w) w) w) (fun w => K x8 w) w) w) w) w) w) w) w) w) w) w

theorem Q_levels_Levels_Room (a0 : Value) (K : KV) : S_levels_Levels_Room a0 K = P_levels_Levels_Room a0 K := by
  unfold S_levels_Levels_Room P_levels_Levels_Room
  generalize @CP = y_CP
  generalize @addW = y_addW
  generalize @binIntW = y_binIntW
  generalize @condP = y_condP
  generalize @idxW = y_idxW
  generalize @lenW = y_lenW
  generalize @load1W = y_load1W
  generalize @loopW2 = y_loopW2
  generalize @nilW = y_nilW
  rfl

/-- writes_Writes_Put -/
def P_writes_Writes_Put (a0 a1 a2 : Value) (K : KV) : World → Prop := fun w =>
 binIntW .lss a1 (Value.int .i64 1) (fun x1 w =>
 gW x1 false (fun K w => K a1 w) (fun x2 w =>
 gW x1 false (fun K w => binIntW .geq x2 (Value.int .i64 256) K w) (fun x3 w =>
 pickW x1 (Value.bool true) x3 (fun x4 w =>
 condP x4 (fun w => K (Value.int .i64 2) w) (fun w => CP Try.prog Fn.writes_Writes_find [a0, a1] (fun x5 w =>
 binIntW .geq x5 (Value.int .i64 0) (fun x6 w =>
 condP x6 (fun w => nilW a0 (fun x7 w =>
 addW 1 x7 (fun x8 w =>
 load1W x8 (fun x9 w =>
 idxW 2 x9 x5 (fun x10 w =>
 addW 1 x10 (fun x11 w =>
 storeW 1 x11 a2 (fun _ w =>
 K (Value.int .i64 0) w) w) w) w) w) w) w) (fun w => drewW (fun w => nilW a0 (fun x13 w =>
 addW 1 x13 (fun x14 w =>
 load1W x14 (fun x15 w =>
 lenW x15 (fun x16 w =>
 nilW a0 (fun x17 w =>
 addW 0 x17 (fun x18 w =>
 load1W x18 (fun x19 w =>
 binIntW .geq x16 x19 (fun x20 w =>
 condP x20 (fun w => K (Value.int .i64 5) w) (fun w => nilW a0 (fun x21 w =>
 addW 1 x21 (fun x22 w =>
 load1W x22 (fun x23 w =>
 buildW [(Value.int .i64 0), (Value.int .u64 0)] [(0, 1, a1), (1, 1, a2)] (fun x24 w =>
 buildSliceW [(Value.int .i64 0), (Value.int .u64 0)] 1 [(0, 2, x24)] (fun x25 w =>
 appendW 2 16 x23 x25 (fun x26 w =>
 nilW a0 (fun x27 w =>
 addW 1 x27 (fun x28 w =>
 storeW 1 x28 x26 (fun _ w =>
 K (Value.int .i64 0) w) w) w) w) w) w) w) w) w) w) w) w) w) w) w) w) w) w) w) w) w) w) w) w) w) w) w) w

theorem Q_writes_Writes_Put (a0 a1 a2 : Value) (K : KV) : S_writes_Writes_Put a0 a1 a2 K = P_writes_Writes_Put a0 a1 a2 K := by
  unfold S_writes_Writes_Put P_writes_Writes_Put
  generalize @CP = y_CP
  generalize @addW = y_addW
  generalize @appendW = y_appendW
  generalize @binIntW = y_binIntW
  generalize @buildSliceW = y_buildSliceW
  generalize @buildW = y_buildW
  generalize @condP = y_condP
  generalize @drewW = y_drewW
  generalize @gW = y_gW
  generalize @idxW = y_idxW
  generalize @lenW = y_lenW
  generalize @load1W = y_load1W
  generalize @nilW = y_nilW
  generalize @pickW = y_pickW
  generalize @storeW = y_storeW
  rfl

/-- arena_asked -/
def P_arena_asked (a0 a1 : Value) (K : KV) : World → Prop := fun w =>
 binIntW .leq a1 (Value.int .i64 14) (fun x1 w =>
 gW x1 false (fun K w => K a1 w) (fun x2 w =>
 gW x1 false (fun K w => K a0 w) (fun x3 w =>
 gW x1 false (fun K w => CP Try.prog Fn.view_View_Size [x3] K w) (fun x4 w =>
 gW x1 false (fun K w => binIntW .geq x2 x4 K w) (fun x5 w =>
 pickW x1 (Value.bool true) x5 (fun x6 w =>
 condP x6 (fun w => K (Value.tuple #[(Value.int .i64 0), (Value.bool false), (Value.int .i64 2)]) w) (fun w => binIntW .sub a1 (Value.int .i64 1) (fun x7 w =>
 CP Try.prog Fn.view_View_Read [a0, x7] (fun x8 w =>
 extractW 0 x8 (fun x9 w =>
 extractW 1 x8 (fun x10 w =>
 binIntW .neq x10 (Value.int .i64 0) (fun x11 w =>
 condP x11 (fun w => K (Value.tuple #[(Value.int .i64 0), (Value.bool false), x10]) w) (fun w => CP Try.prog Fn.arena_header [x9] (fun x12 w =>
 extractW 0 x12 (fun x13 w =>
 extractW 1 x12 (fun x14 w =>
 binIntW .eql x13 (Value.int .i64 0) (fun x15 w =>
 condP x15 (fun w => K (Value.tuple #[(Value.int .i64 0), (Value.bool false), (Value.int .i64 2)]) w) (fun w => K (Value.tuple #[x13, x14, (Value.int .i64 0)]) w) w) w) w) w) w) w) w) w) w) w) w) w) w) w) w) w) w) w

theorem Q_arena_asked (a0 a1 : Value) (K : KV) : S_arena_asked a0 a1 K = P_arena_asked a0 a1 K := by
  unfold S_arena_asked P_arena_asked
  generalize @CP = y_CP
  generalize @binIntW = y_binIntW
  generalize @condP = y_condP
  generalize @extractW = y_extractW
  generalize @gW = y_gW
  generalize @pickW = y_pickW
  rfl

/-- arena_Size -/
def P_arena_Size (a0 : Value) (K : KV) : World → Prop := fun w =>
 binIntW .lss a0 (Value.int .i64 1) (fun x1 w =>
 gW x1 false (fun K w => K a0 w) (fun x2 w =>
 gW x1 false (fun K w => binIntW .gtr x2 (Value.int .i64 4) K w) (fun x3 w =>
 pickW x1 (Value.bool true) x3 (fun x4 w =>
 condP x4 (fun w => K (Value.int .i64 0) w) (fun w => binIntW .shl (Value.int .i64 1) a0 (fun x5 w =>
 K x5 w) w) w) w) w) w) w

theorem Q_arena_Size (a0 : Value) (K : KV) : S_arena_Size a0 K = P_arena_Size a0 K := by
  unfold S_arena_Size P_arena_Size
  generalize @binIntW = y_binIntW
  generalize @condP = y_condP
  generalize @gW = y_gW
  generalize @pickW = y_pickW
  rfl

/-- slices_Backward_levels_level_levels_level_1 -/
def P_slices_Backward_levels_level_levels_level_1 (a0 a1 : Value) (K : KV) : World → Prop := fun w =>
 load1W a1 (fun x1 w =>
 lenW x1 (fun x2 w =>
 binIntW .sub x2 (Value.int .i64 1) (fun x3 w =>
 loopW1 x3 (fun J1 x4 w =>
 binIntW .geq x4 (Value.int .i64 0) (fun x5 w =>
 condP x5 (fun w => load1W a1 (fun x6 w =>
 idxW 1 x6 x4 (fun x7 w =>
 load1W x7 (fun x8 w =>
 dynW Try.prog a0 [x4, x8] (fun x9 w =>
 notW x9 (fun x10 w =>
 condP x10 (fun w => K (Value.tuple #[]) w) (fun w => binIntW .sub x4 (Value.int .i64 1) (fun x11 w =>
 J1 x11 w) w) w) w) w) w) w) w) (fun w => K (Value.tuple #[]) w) w) w) w) w) w) w

theorem Q_slices_Backward_levels_level_levels_level_1 (a0 a1 : Value) (K : KV) : S_slices_Backward_levels_level_levels_level_1 a0 a1 K = P_slices_Backward_levels_level_levels_level_1 a0 a1 K := by
  unfold S_slices_Backward_levels_level_levels_level_1 P_slices_Backward_levels_level_levels_level_1
  generalize @binIntW = y_binIntW
  generalize @condP = y_condP
  generalize @dynW = y_dynW
  generalize @idxW = y_idxW
  generalize @lenW = y_lenW
  generalize @load1W = y_load1W
  generalize @loopW1 = y_loopW1
  generalize @notW = y_notW
  rfl

/-- writes_Writes_find -/
def P_writes_Writes_find (a0 a1 : Value) (K : KV) : World → Prop := fun w =>
 boxW a1 (fun x1 w =>
 nilW a0 (fun x2 w =>
 addW 1 x2 (fun x3 w =>
 load1W x3 (fun x4 w =>
 CP Try.prog Fn.slices_IndexFunc_api_Cell_api_Cell [x4, (Value.func (.func Fn.writes_Writes_find_1) #[] #[x1])] (fun x5 w =>
 K x5 w) w) w) w) w) w

theorem Q_writes_Writes_find (a0 a1 : Value) (K : KV) : S_writes_Writes_find a0 a1 K = P_writes_Writes_find a0 a1 K := by
  unfold S_writes_Writes_find P_writes_Writes_find
  generalize @CP = y_CP
  generalize @addW = y_addW
  generalize @boxW = y_boxW
  generalize @load1W = y_load1W
  generalize @nilW = y_nilW
  rfl

/-- writes_Writes_Len -/
def P_writes_Writes_Len (a0 : Value) (K : KV) : World → Prop := fun w =>
 nilW a0 (fun x1 w =>
 addW 1 x1 (fun x2 w =>
 load1W x2 (fun x3 w =>
 lenW x3 (fun x4 w =>
 K x4 w) w) w) w) w

theorem Q_writes_Writes_Len (a0 : Value) (K : KV) : S_writes_Writes_Len a0 K = P_writes_Writes_Len a0 K := by
  unfold S_writes_Writes_Len P_writes_Writes_Len
  generalize @addW = y_addW
  generalize @lenW = y_lenW
  generalize @load1W = y_load1W
  generalize @nilW = y_nilW
  rfl

/-- arena_header -/
def P_arena_header (a0 : Value) (K : KV) : World → Prop := fun w =>
 binIntW .geq a0 (Value.int .u64 1) (fun x1 w =>
 gW x1 true (fun K w => K a0 w) (fun x2 w =>
 gW x1 true (fun K w => binIntW .leq x2 (Value.int .u64 4) K w) (fun x3 w =>
 pickW x1 x3 (Value.bool false) (fun x4 w =>
 condP x4 (fun w => convW .i64 a0 (fun x5 w =>
 K (Value.tuple #[x5, (Value.bool false)]) w) w) (fun w => binIntW .geq a0 (Value.int .u64 9) (fun x6 w =>
 gW x6 true (fun K w => K a0 w) (fun x7 w =>
 gW x6 true (fun K w => binIntW .leq x7 (Value.int .u64 12) K w) (fun x8 w =>
 pickW x6 x8 (Value.bool false) (fun x9 w =>
 condP x9 (fun w => binIntW .sub a0 (Value.int .u64 8) (fun x10 w =>
 convW .i64 x10 (fun x11 w =>
 K (Value.tuple #[x11, (Value.bool true)]) w) w) w) (fun w => K (Value.tuple #[(Value.int .i64 0), (Value.bool false)]) w) w) w) w) w) w) w) w) w) w) w

theorem Q_arena_header (a0 : Value) (K : KV) : S_arena_header a0 K = P_arena_header a0 K := by
  unfold S_arena_header P_arena_header
  generalize @binIntW = y_binIntW
  generalize @condP = y_condP
  generalize @convW = y_convW
  generalize @gW = y_gW
  generalize @pickW = y_pickW
  rfl

/-- slices_IndexFunc_api_Cell_api_Cell -/
def P_slices_IndexFunc_api_Cell_api_Cell (a0 a1 : Value) (K : KV) : World → Prop := fun w =>
 lenW a0 (fun x1 w =>
 loopW1 (Value.int .i64 0) (fun J1 x2 w =>
 binIntW .lss x2 x1 (fun x3 w =>
 condP x3 (fun w => idxW 2 a0 x2 (fun x4 w =>
 loadNW 2 x4 (fun x5 w =>
 dynW Try.prog a1 [x5] (fun x6 w =>
 condP x6 (fun w => K x2 w) (fun w => binIntW .add x2 (Value.int .i64 1) (fun x7 w =>
 J1 x7 w) w) w) w) w) w) (fun w => K (Value.int .i64 (-1)) w) w) w) w) w

theorem Q_slices_IndexFunc_api_Cell_api_Cell (a0 a1 : Value) (K : KV) : S_slices_IndexFunc_api_Cell_api_Cell a0 a1 K = P_slices_IndexFunc_api_Cell_api_Cell a0 a1 K := by
  unfold S_slices_IndexFunc_api_Cell_api_Cell P_slices_IndexFunc_api_Cell_api_Cell
  generalize @binIntW = y_binIntW
  generalize @condP = y_condP
  generalize @dynW = y_dynW
  generalize @idxW = y_idxW
  generalize @lenW = y_lenW
  generalize @loadNW = y_loadNW
  generalize @loopW1 = y_loopW1
  rfl

/-- writes_Writes_find_1 -/
def P_writes_Writes_find_1 (a0 a1 : Value) (K : KV) : World → Prop := fun w =>
 boxW a0 (fun x1 w =>
 addW 0 x1 (fun x2 w =>
 load1W x2 (fun x3 w =>
 load1W a1 (fun x4 w =>
 binIntW .eql x3 x4 (fun x5 w =>
 K x5 w) w) w) w) w) w

theorem Q_writes_Writes_find_1 (a0 a1 : Value) (K : KV) : S_writes_Writes_find_1 a0 a1 K = P_writes_Writes_find_1 a0 a1 K := by
  unfold S_writes_Writes_find_1 P_writes_Writes_find_1
  generalize @addW = y_addW
  generalize @binIntW = y_binIntW
  generalize @boxW = y_boxW
  generalize @load1W = y_load1W
  rfl

end Go.Proofs.Ytokbiojkpldfeaa.S
