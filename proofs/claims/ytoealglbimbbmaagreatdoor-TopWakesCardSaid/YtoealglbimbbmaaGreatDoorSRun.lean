import Derived.Test.YtoealglbimbbmaaGreatDoorSMem
namespace Go.Proofs.YtoealglbimbbmaaGreatDoor.S
open Go
def Ran (P : Program) (s : Sem Value) (K : KV) (w : World) : Prop := ∃ v w', s.run P w = .ok v w' ∧ K v w'
section
variable {P : Program} {K : KV} {w : World}
theorem ran_load1 {t : TypeId} {d : TypeDesc} {a : Value} (hd : P.underlying t = some d) (hg : isAggD d = false) (h : load1W a K w) : Ran P (Instr.loadAt t a) K w := by
 unfold load1W at h
 split at h <;> try exact h.elim
 split at h <;> try exact h.elim
 rename_i b i cs hm
 unfold onSome at h
 split at h <;> try exact h.elim
 rename_i v hv
 exact ⟨v, w, by simp [Instr.loadAt, Instr.sureAddr, loadVar, run_isAgg w hd, hg, cell_mem hm, hv], h⟩
theorem ran_loadN {t : TypeId} {d : TypeDesc} {i : TypeInfo} {a : Value} (hd : P.underlying t = some d) (hi : P.info? t = some i) (hg : isAggD d = true) (h : loadNW i.size a K w) : Ran P (Instr.loadAt t a) K w := by
 unfold loadNW at h
 split at h <;> try exact h.elim
 split at h <;> try exact h.elim
 rename_i b o cs hm
 exact ⟨_, w, by simp [Instr.loadAt, Instr.sureAddr, loadVar, run_isAgg w hd, hg, run_sizeOf w hi, run_loadCells hm h.1], h.2⟩
theorem run_store {t : TypeId} {i : TypeInfo} {a v : Value} (hi : P.info? t = some i) (h : storeW i.size a v K w) : ∃ w', (Instr.storeAt t a v).run P w = .ok () w' ∧ K undef w' := by
 unfold storeW at h
 split at h <;> try exact h.elim
 rename_i b o
 split at h <;> try exact h.elim
 rename_i cs hm
 obtain ⟨h1, h2, h3, h4, h5⟩ := h
 refine ⟨_, ?_, h5⟩
 have := run_storeCells (P := P) v.cells.toList cs w o 0 hm h3 h2 (by simp; omega)
 simp only [Nat.add_zero] at this
 simp [Instr.storeAt, Instr.sureAddr, storeVar, run_sizeOf w hi, h1, this]
theorem ran_new {t : TypeId} {c : Array Value} (h : newW c K w) : Ran P (do pure (.pointer (some (← newRow t c)))) K w :=
 ⟨_, _, by simp only [Sem.run_bind, run_newRow, Result.andThen_ok, Sem.run_pure], h t⟩
theorem ran_fieldAddr {s : TypeId} {fs : Array Field} {f : Nat} {fd : Field} {i : TypeInfo} {x : Value} (hs : P.underlying s = some (.struct fs)) (hf : fs[f]? = some fd) (hi : P.info? fd.type = some i)
  (h0 : i.size ≠ 0) (h : addW fd.offset x K w) : Ran P (Instr.fieldAt s x f) K w := by
 unfold addW at h
 split at h <;> try exact h.elim
 exact ⟨_, w, by simp [Instr.fieldAt, run_underlying w hs, hf, Instr.sureAddr, fieldPlace, run_sizeOf w hi, h0, add_none], h⟩
theorem ran_idx {t e : TypeId} {i : TypeInfo} {x ix : Value} (ht : P.underlying t = some (.slice e)) (hi : P.info? e = some i) (h : idxW i.size x ix K w) : Ran P (Instr.indexAt t x ix) K w := by
 unfold idxW at h
 split at h <;> try exact h.elim
 obtain ⟨h1, h2, h3⟩ := h
 exact ⟨_, w, by simp [Instr.indexAt, asIntOf, run_underlying w ht, run_sizeOf w hi, h1, h2, add_none], h3⟩
theorem ran_idxArr {t e : TypeId} {n : Nat} {i : TypeInfo} {x ix : Value} (ht : P.underlying t = some (.array n e)) (hi : P.info? e = some i) (h : idxArrW n i.size x ix K w) : Ran P (Instr.indexAt t x ix) K w := by
 unfold idxArrW at h
 split at h <;> try exact h.elim
 obtain ⟨h1, h2, h3⟩ := h
 exact ⟨_, w, by simp [Instr.indexAt, asIntOf, Instr.sureAddr, run_underlying w ht, run_sizeOf w hi, h1, h2, add_none], h3⟩
theorem run_part {t : TypeId} {d : TypeDesc} {i : TypeInfo} {cs : Array Value} {o : Nat} (hd : P.underlying t = some d) (hi : P.info? t = some i) (h : partW (isAggD d) o i.size (.agg cs) K w) : Ran P (part t cs o) K w := by
 unfold partW at h
 simp only at h
 unfold Ran part
 simp only [Sem.run_bind, run_isAgg w hd, Result.andThen_ok]
 cases hg : isAggD d
 ·simp only [hg, Bool.false_eq_true, if_false] at h ⊢
  unfold onSome at h
  split at h <;> try exact h.elim
  rename_i v hv
  exact ⟨v, w, by simp [hv], h⟩
 ·simp only [hg, if_true] at h ⊢
  exact ⟨_, w, by simp [run_sizeOf w hi], h⟩
theorem ran_field {s : TypeId} {fs : Array Field} {f : Nat} {fd : Field} {d : TypeDesc} {i : TypeInfo} {x : Value} (hs : P.underlying s = some (.struct fs)) (hf : fs[f]? = some fd) (hd : P.underlying fd.type = some d)
  (hi : P.info? fd.type = some i) (h : partW (isAggD d) fd.offset i.size x K w) : Ran P (Instr.field s x f) K w := by
 cases x <;> try exact h.elim
 obtain ⟨v, w', hr, hk⟩ := run_part hd hi h
 exact ⟨v, w', by simp [Instr.field, run_underlying w hs, hf, asAgg, hr], hk⟩
theorem ran_extract {x : Value} {i : Nat} (h : extractW i x K w) : Ran P (Instr.extract x i) K w := by
 unfold extractW at h
 split at h <;> try exact h.elim
 unfold onSome at h
 split at h <;> try exact h.elim
 rename_i v hv
 exact ⟨v, w, by simp [Instr.extract, hv], h⟩
theorem ran_iface {t : TypeId} {d : TypeDesc} {x : Value} (ht : P.underlying t = some d) (hd : ∀ a, d = .interface a → False) (h : ifaceW t x K w) : Ran P (Instr.makeInterface t x) K w := by
 refine ⟨.iface t x, w, ?_, h⟩
 simp only [Instr.makeInterface, Sem.run_bind, run_underlying w ht, Result.andThen_ok]
 exact Sem.run_pure ..
theorem ran_len {t e : TypeId} {x : Value} {ty : TypeId} (ht : P.underlying t = some (.slice e)) (h : lenW x K w) : Ran P (Builtin.len_ #[t] ty #[x]) K w := by
 unfold lenW at h
 split at h <;> try exact h.elim
 exact ⟨_, w, by simp [Builtin.len_, run_underlying w ht, goInt], h⟩
theorem fold_run (f : Value → Value → Option Value) (g : Value → Value → Sem Value) (hfg : ∀ x y z, f x y = some z → (g x y).run P w = .ok z w) :
  ∀ (l : List Value) (x z : Value), foldV f x l = some z → (l.foldlM g x).run P w = .ok z w
 | [], x, z, h => by simp [foldV] at h; simp [h]
 | y :: l, x, z, h => by
  simp only [foldV] at h
  split at h
  ·rename_i u hu
   simp only [List.foldlM_cons, Sem.run_bind, hfg _ _ _ hu, Result.andThen_ok]
   exact fold_run f g hfg l u z h
  ·exact (by cases h)
theorem ran_max {x : Value} {l : List Value} {ts : Array TypeId} {ty : TypeId} (h : maxW x l K w) : Ran P (Builtin.max_ ts ty (x :: l).toArray) K w := by
 unfold maxW onSome at h
 split at h <;> try exact h.elim
 rename_i v hv
 refine ⟨v, w, ?_, h⟩
 simp only [Builtin.max_]
 exact fold_run max2V Builtin.max2 (fun x y z hz => by cases x <;> cases y <;> simp [max2V] at hz; subst hz; simp [Builtin.max2]) l x v hv
theorem ran_min {x : Value} {l : List Value} {ts : Array TypeId} {ty : TypeId} (h : minW x l K w) : Ran P (Builtin.min_ ts ty (x :: l).toArray) K w := by
 unfold minW onSome at h
 split at h <;> try exact h.elim
 rename_i v hv
 refine ⟨v, w, ?_, h⟩
 simp only [Builtin.min_]
 exact fold_run min2V Builtin.min2 (fun x y z hz => by cases x <;> cases y <;> simp [min2V] at hz; subst hz; simp [Builtin.min2]) l x v hv
theorem ran_binInt {t : TypeId} {op : BinOp} {x y : Value} (h : binIntW op x y K w) : Ran P (binOp op t x y) K w := by
 unfold binIntW at h
 split at h <;> try exact h.elim
 rename_i k a k' b
 split at h
 ·exact ⟨_, w, by simp [binOp, Op.shift, show ¬ b < 0 by omega], h.2⟩
 ·exact ⟨_, w, by simp [binOp, Op.shift, show ¬ b < 0 by omega], h.2⟩
 ·rename_i h1 h2
  obtain ⟨rfl, h⟩ := h
  unfold onSome at h
  split at h <;> try exact h.elim
  rename_i v hv
  refine ⟨v, w, ?_, h⟩
  cases op <;> simp [intBin] at hv h1 h2 <;> (try subst hv) <;> (try simp [binOp, Op.intArith, Op.intBits, Op.intCmp]) <;> (obtain ⟨hb, rfl⟩ := hv; simp [Op.intDiv, hb])
theorem eqIn_bool {t : TypeId} (n : Nat) (a b : Bool) (ht : P.underlying t = some .bool) : (Op.equalIn (n + 1) t (.bool a) (.bool b)).run P w = .ok (a == b) w := by
 simp [Op.equalIn, run_underlying w ht]
theorem eqIn_int {t : TypeId} {k : IntKind} (n : Nat) (k' : IntKind) (a b : Int) (ht : P.underlying t = some (.int k)) : (Op.equalIn (n + 1) t (.int k' a) (.int k' b)).run P w = .ok (a == b) w := by
 simp [Op.equalIn, run_underlying w ht]
theorem eqIn_nil {t e : TypeId} (n : Nat) (b : Option Addr) (ht : P.underlying t = some (.pointer e)) : (Op.equalIn (n + 1) t (.pointer none) (.pointer b)).run P w = .ok b.isNone w := by
 simp [Op.equalIn, run_underlying w ht]
theorem eqIn_nil' {t e : TypeId} (n : Nat) (b : Addr) (ht : P.underlying t = some (.pointer e)) : (Op.equalIn (n + 1) t (.pointer (some b)) (.pointer none)).run P w = .ok false w := by
 simp [Op.equalIn, run_underlying w ht]
theorem eqIn_nilS {t e : TypeId} (n : Nat) (b : Option Addr) (i j l c : Nat) (ht : P.underlying t = some (.slice e)) : (Op.equalIn (n + 1) t (.slice none i j) (.slice b l c)).run P w = .ok b.isNone w := by
 simp [Op.equalIn, run_underlying w ht]
theorem eqIn_nilS' {t e : TypeId} (n : Nat) (b : Addr) (i j l c : Nat) (ht : P.underlying t = some (.slice e)) : (Op.equalIn (n + 1) t (.slice (some b) l c) (.slice none i j)).run P w = .ok false w := by
 simp [Op.equalIn, run_underlying w ht]
theorem ran_eq {t : TypeId} {op : BinOp} {x y : Value} {r : Bool} (hx : ∀ op', binOp op' t x y = match (op' : BinOp) with | .eql => (do pure (.bool (← Op.equal t x y))) | .neq => (do pure (.bool (!(← Op.equal t x y)))) | _ => binOp op' t x y)
  (hr : (Op.equal t x y).run P w = .ok r w) (h : eqW op r K w) : Ran P (binOp op t x y) K w := by
 unfold eqW at h
 split at h <;> try exact h.elim
 ·exact ⟨_, w, by rw [hx]; simp only [Sem.run_bind, hr, Result.andThen_ok, Sem.run_pure], h⟩
 ·exact ⟨_, w, by rw [hx]; simp only [Sem.run_bind, hr, Result.andThen_ok, Sem.run_pure], h⟩
theorem ran_binBool {t : TypeId} {op : BinOp} {x y : Value} (ht : P.underlying t = some .bool) (h : binBoolW op x y K w) : Ran P (binOp op t x y) K w := by
 unfold binBoolW at h
 split at h <;> try exact h.elim
 exact ran_eq (fun op' => by cases op' <;> rfl) (eqIn_bool 9999 _ _ ht) h
theorem ran_eqNil {t e : TypeId} {op : BinOp} {x y : Value} (ht : P.underlying t = some (.pointer e)) (h : eqNilW op x y K w) : Ran P (binOp op t x y) K w := by
 unfold eqNilW at h
 split at h <;> try exact h.elim
 ·exact ran_eq (fun op' => by cases op' <;> rfl) (eqIn_nil 9999 _ ht) h
 ·exact ran_eq (fun op' => by cases op' <;> rfl) (eqIn_nil' 9999 _ ht) h
theorem ran_eqNilSlice {t e : TypeId} {op : BinOp} {x y : Value} (ht : P.underlying t = some (.slice e)) (h : eqNilSliceW op x y K w) : Ran P (binOp op t x y) K w := by
 unfold eqNilSliceW at h
 split at h <;> try exact h.elim
 ·exact ran_eq (fun op' => by cases op' <;> rfl) (eqIn_nilS 9999 _ _ _ _ _ ht) h
 ·exact ran_eq (fun op' => by cases op' <;> rfl) (eqIn_nilS' 9999 _ _ _ _ _ ht) h
theorem ran_eqStr {t : TypeId} {op : BinOp} {x y : Value} (h : eqStrW op x y K w) : Ran P (binOp op t x y) K w := by
 unfold eqStrW at h
 split at h <;> try exact h.elim
 unfold eqW at h
 split at h <;> try exact h.elim
 ·exact ⟨_, w, by simp [binOp, Op.stringOp], h⟩
 ·exact ⟨_, w, by simp [binOp, Op.stringOp], h⟩
theorem ran_assert {t xt : TypeId} {i : TypeInfo} {z x : Value} {d : TypeDesc} (ht : P.underlying t = some d) (hd : ∀ a, d = .interface a → False) (hi : P.info? t = some i) (hz : i.zero = some z) (h : assertW t z x K w) : Ran P (Instr.typeAssert x xt t true) K w := by
 unfold assertW at h
 split at h <;> try exact h.elim
 rename_i t' v
 refine ⟨_, w, ?_, h⟩
 simp only [Instr.typeAssert, Sem.run_bind, run_underlying w ht, Result.andThen_ok]
 by_cases h1 : t' = t
 ·rw [if_pos h1]
  cases d <;> first | exact (hd _ rfl).elim | (simp only [h1, if_true]; exact Sem.run_pure ..)
 ·rw [if_neg h1]
  cases d <;> first | exact (hd _ rfl).elim | simp only [if_neg h1, if_true, Sem.run_bind, run_zeroValue w hi hz, Result.andThen_ok, Sem.run_pure]
def EqOK (P : Program) (t : TypeId) (ks : List CK) : Prop :=
 P.eqGuardType P.depth t = false ∧ ∀ (xs ys : List Value) (w : World), fits ks xs → fits ks ys → (Op.equal t (.agg xs.toArray) (.agg ys.toArray)).run P w = .ok (eqCells xs ys) w
theorem ran_eqAgg {t : TypeId} {ks : List CK} {op : BinOp} {x y : Value} (ht : EqOK P t ks) (h : eqAggW ks op x y K w) : Ran P (binOp op t x y) K w := by
 unfold eqAggW at h
 split at h <;> try exact h.elim
 obtain ⟨h1, h2, h3⟩ := h
 exact ran_eq (fun op' => by cases op' <;> rfl) (by simpa using ht.2 _ _ w h1 h2) h3
end
end Go.Proofs.YtoealglbimbbmaaGreatDoor.S
namespace Go.Proofs.YtoealglbimbbmaaGreatDoor.S
open Go
section
variable {P : Program} {K : KV} {w : World}
theorem zip_seg (off : Nat) : ∀ (l : List Value) (k : Nat) (cs : Array Value), ((l.zipIdx k).foldl (fun cs p => cs.setIfInBounds (off + p.2) p.1) cs).toList = seg cs.toList (off + k) l
 | [], k, cs => rfl
 | v :: l, k, cs => by
  simp only [List.zipIdx_cons, List.foldl_cons]
  rw [zip_seg off l (k + 1)]
  simp [seg, Nat.add_assoc]
theorem fill_build (place : Nat → Option (Nat × Nat)) : ∀ (parts : List (Nat × Value)) (ps : List (Nat × Nat × Value)) (cells : Array Value) (cs : List Value),
  (parts.mapM fun x => (place x.1).map fun q => (q.1, q.2, x.2)) = some ps → buildL cells.toList ps = some cs → Instr.fill place cells parts = some cs.toArray
 | [], ps, cells, cs, h, hb => by
  simp at h; subst h; simp [buildL] at hb; subst hb; simp [Instr.fill]
 | (i, v) :: parts, ps, cells, cs, h, hb => by
  simp only [List.mapM_cons, Option.bind_eq_bind, Option.bind_eq_some_iff, Option.map_eq_some_iff, Option.pure_def, Option.some.injEq] at h
  obtain ⟨a, ⟨q, hq, rfl⟩, ps', h', rfl⟩ := h
  simp only [buildL] at hb
  split at hb
  ·rename_i hc
   simp only [Instr.fill, hq]
   rw [if_neg (by simp only [Bool.or_eq_true, decide_eq_true_eq, ne_eq]; simp at hc ⊢; omega)]
   refine fill_build place parts ps' _ cs h' ?_
   rw [← hb]
   congr 1
   have := zip_seg q.1 v.cells.toList 0 cells
   simp only [Nat.add_zero] at this
   rw [← this]
   rw [← Array.foldl_toList, Array.toList_zipIdx]
  ·cases hb
theorem run_mapM {α β : Type} (f : α → Sem β) (g : α → β) (w : World) : ∀ (l : List α), (∀ x ∈ l, (f x).run P w = .ok (g x) w) → (l.mapM f).run P w = .ok (l.map g) w
 | [], _ => by simp
 | x :: l, h => by
  simp only [List.mapM_cons, Sem.run_bind, h x (by simp), Result.andThen_ok, run_mapM f g w l (fun y hy => h y (by simp [hy])), Sem.run_pure, List.map_cons]
abbrev places (P : Program) : List Field → Option (List (Nat × Nat))
 | [] => some []
 | f :: fs => match P.info? f.type, places P fs with
  | some i, some l => some ((f.offset, i.size) :: l)
  | _, _ => none
theorem places_map : ∀ (fs : List Field) (l : List (Nat × Nat)), places P fs = some l → (∀ f ∈ fs, ∃ i, P.info? f.type = some i) ∧ l = fs.map fun f => (f.offset, ((P.info? f.type).map (·.size)).getD 0)
 | [], l, h => by simp [places] at h; simp [h]
 | f :: fs, l, h => by
  simp only [places] at h
  split at h
  ·rename_i i l' hi hl
   obtain ⟨h1, h2⟩ := places_map fs l' hl
   cases h
   refine ⟨?_, by simp [hi, ← h2]⟩
   intro g hg
   rcases List.mem_cons.1 hg with rfl | hg
   ·exact ⟨i, hi⟩
   ·exact h1 g hg
  ·cases h
theorem ran_build {t : TypeId} {fs : Array Field} {i : TypeInfo} {z : Value} {parts : Array (Nat × Value)} {pl : List (Nat × Nat)} {ps : List (Nat × Nat × Value)} (ht : P.underlying t = some (.struct fs)) (hi : P.info? t = some i) (hz : i.zero = some z)
  (hpl : places P fs.toList = some pl) (hps : (parts.toList.mapM fun x => (nth pl x.1).map fun q => (q.1, q.2, x.2)) = some ps) (h : buildW z.cells.toList ps K w) : Ran P (Instr.build t parts) K w := by
 unfold buildW at h
 split at h <;> try exact h.elim
 rename_i cs hcs
 obtain ⟨h1, h2⟩ := places_map _ _ hpl
 have hm : (fs.mapM (m := Sem) fun f => do pure (f.offset, ← sizeOf f.type)).run P w = .ok pl.toArray w := by
  rw [Array.mapM_eq_mapM_toList, Sem.run_map, run_mapM _ (fun f => (f.offset, ((P.info? f.type).map (·.size)).getD 0)) w]
  ·simp [h2]
  ·intro f hf
   obtain ⟨j, hj⟩ := h1 f hf
   simp [run_sizeOf w hj, hj]
 refine ⟨_, w, ?_, h⟩
 have hfill : Instr.fill (fun x => pl.toArray[x]?) z.cells parts.toList = some cs.toArray := by
  refine fill_build _ _ ps _ cs ?_ hcs
  simpa [nth_eq] using hps
 simp only [Instr.build, Sem.run_bind, run_zeroValue w hi hz, Result.andThen_ok, run_underlying w ht, hm, hfill, Sem.run_pure]
theorem toList_repl (zero : Array Value) : ∀ n : Nat, ((Array.range (n * zero.size)).map (zero[· % zero.size]!)).toList = repl n zero.toList
 | 0 => by simp [repl]
 | n + 1 => by
  have ih := toList_repl zero n
  simp only [Array.toList_map, Array.toList_range] at ih ⊢
  rw [Nat.succ_mul, List.range_add, List.map_append, ih]
  simp only [repl, List.replicate_succ', List.flatten_append, List.flatten_cons, List.flatten_nil, List.append_nil]
  congr 1
  apply List.ext_getElem
  ·simp
  ·intro j h1 h2
   simp only [List.length_map, List.length_range] at h1
   simp only [List.map_map, List.getElem_map, List.getElem_range, Function.comp]
   rw [Nat.mul_comm, Nat.mul_add_mod, Nat.mod_eq_of_lt h1, getElem!_pos zero j h1]
   simp
theorem range_repl (zero : Array Value) (n : Nat) : (Array.range (n * zero.size)).map (zero[· % zero.size]!) = (repl n zero.toList).toArray := by
 apply Array.toList_inj.1
 rw [toList_repl]
theorem ran_buildSlice {t e : TypeId} {i : TypeInfo} {z : Value} {len : Nat} {parts : Array (Nat × Value)} {ps : List (Nat × Nat × Value)} (ht : P.underlying t = some (.slice e)) (hi : P.info? e = some i) (hz : i.zero = some z) (hs : z.cells.size = i.size)
  (hps : ps = parts.toList.map fun x => (x.1 * i.size, i.size, x.2)) (h : buildSliceW z.cells.toList len ps K w) : Ran P (Instr.buildSlice t len parts) K w := by
 unfold buildSliceW at h
 obtain ⟨hb, h⟩ := h
 split at h <;> try exact h.elim
 rename_i cs hcs
 have hb' : len * i.size ≤ 16777216 := by simpa [hs] using hb
 have hcells : (Array.range (len * i.size)).map (((if len * i.size = 0 then #[] else z.cells) : Array Value)[· % ((if len * i.size = 0 then #[] else z.cells) : Array Value).size]!) = (repl len z.cells.toList).toArray := by
  by_cases h0 : len * i.size = 0
  ·rw [h0]
   rcases Nat.mul_eq_zero.1 h0 with h0 | h0
   ·subst h0; simp [repl]
   ·have : z.cells.toList = [] := by
     apply List.eq_nil_of_length_eq_zero; simp [hs, h0]
    rw [this]; simp [repl]
  ·simp only [if_neg h0]
   rw [← hs, range_repl]
 have hfill : Instr.fill (fun j => some (j * i.size, i.size)) (repl len z.cells.toList).toArray parts.toList = some cs.toArray := by
  refine fill_build _ _ ps _ cs ?_ (by simpa using hcs)
  rw [hps]
  simp only [Option.map_some]
  generalize parts.toList = l
  induction l with
  | nil => rfl
  | cons x l ih => simp only [List.mapM_cons, ih, List.map_cons]; rfl
 refine ⟨_, _, ?_, h e⟩
 simp only [Instr.buildSlice, Sem.run_bind, run_underlying w ht, Result.andThen_ok, run_sizeOf w hi]
 rw [if_neg (by omega)]
 by_cases h0 : len * i.size = 0
 ·simp only [if_pos h0] at hcells ⊢
  simp only [Sem.run_bind, Sem.run_pure, Result.andThen_ok, hcells, hfill, run_newRow]
 ·simp only [if_neg h0] at hcells ⊢
  simp only [Sem.run_bind, Sem.run_pure, Result.andThen_ok, run_zeroValue w hi hz, hcells, hfill, run_newRow]
theorem wrap_i64 {n : Int} (h0 : 0 ≤ n) (h1 : n ≤ 9223372036854775807) : IntKind.i64.wrap n = n := by
 simp [IntKind.wrap, IntKind.bits, IntKind.signed]
 omega
theorem ran_makeSlice {t e : TypeId} {i : TypeInfo} {z : Value} {l c : Value} (ht : P.underlying t = some (.slice e)) (hi : P.info? e = some i) (hz : i.zero = some z) (hs : z.cells.size = i.size)
  (h : makeSliceW i.bytes z.cells.toList l c K w) : Ran P (Instr.makeSlice t l c) K w := by
 unfold makeSliceW at h
 split at h <;> try exact h.elim
 rename_i k l k' c
 obtain ⟨h0, h1, h2, h3, h⟩ := h
 have h2' : c ≤ 9223372036854775807 := by simp only [maxLen] at h2; omega
 have hl := wrap_i64 h0 (by omega : l ≤ 9223372036854775807)
 have hc := wrap_i64 (by omega : 0 ≤ c) h2'
 have hcells : (Array.range (c.toNat * i.size)).map (((if c.toNat * i.size = 0 then #[] else z.cells) : Array Value)[· % ((if c.toNat * i.size = 0 then #[] else z.cells) : Array Value).size]!) = (repl c.toNat z.cells.toList).toArray := by
  by_cases h0 : c.toNat * i.size = 0
  ·rw [h0]
   rcases Nat.mul_eq_zero.1 h0 with h0 | h0
   ·rw [h0]; simp [repl]
   ·have : z.cells.toList = [] := by
     apply List.eq_nil_of_length_eq_zero; simp [hs, h0]
    rw [this]; simp [repl]
  ·simp only [if_neg h0]
   rw [← hs, range_repl]
 refine ⟨_, _, ?_, h e⟩
 have hc1 : ¬ ((decide (c < 0) || decide ((i.bytes : Int) * c > 281474976710656)) = true) := by simp; omega
 simp only [Instr.makeSlice, Sem.run_bind, run_underlying w ht, Result.andThen_ok, asInt, asIntOf, Sem.run_pure, run_typeInfo w hi, hl, hc]
 have hcond : ((decide (c < 0) || decide ((i.bytes : Int) * c > 2 ^ 48)) || decide (l < 0) || decide (l > c)) = false := by
  have : (2 : Int) ^ 48 = 281474976710656 := by decide
  simp [this]; omega
 rw [if_neg (by simpa using hcond)]
 by_cases h4 : c.toNat * i.size = 0
 ·simp only [if_pos h4] at hcells
  simp only [Sem.run_bind, run_askRoom, Result.andThen_ok, run_sizeOf w hi, if_pos h4, Sem.run_pure, hcells, run_newRow]
 ·simp only [if_neg h4] at hcells
  simp only [Sem.run_bind, run_askRoom, Result.andThen_ok, run_sizeOf w hi, if_neg h4, Sem.run_pure, run_zeroValue w hi hz, hcells, run_newRow]
theorem ran_slice {t e : TypeId} {i : TypeInfo} {x : Value} {lo hi' : Option Value} (ht : P.underlying t = some (.slice e)) (hi : P.info? e = some i) (h : sliceW i.size x lo hi' K w) : Ran P (Instr.sliceAt t x lo hi' none) K w := by
 unfold sliceW at h
 split at h <;> try exact h.elim
 rename_i a len cap
 split at h <;> try exact h.elim
 rename_i l h' hl hh
 obtain ⟨h1, h2, h3, h⟩ := h
 obtain ⟨ln, rfl⟩ := Int.eq_ofNat_of_zero_le h1
 obtain ⟨hn, rfl⟩ := Int.eq_ofNat_of_zero_le (Int.le_trans h1 h2)
 have h2' : ln ≤ hn := by omega
 have h3' : hn ≤ cap := by omega
 refine ⟨_, w, ?_, h⟩
 have sb : ∀ (k : IntKind) (i y : Nat) (c : BoundsCode), i ≤ y → (Instr.sliceBound (.int k i) y c).run P w = .ok i w := by
  intro k i y c hiy
  unfold Instr.sliceBound
  simp only [asIntOf, Sem.run_bind, Sem.run_pure, Result.andThen_ok]
  rw [if_pos (by omega)]
  simp
 have hb : (Instr.sliceBounds true len cap lo hi' none).run P w = .ok (ln, hn, cap) w := by
  unfold Instr.sliceBounds
  unfold bound at hl hh
  split at hl
  ·split at hh
   ·simp only [Option.some.injEq, Int.ofNat_inj] at hl hh; subst hl; subst hh
    simp
   ·simp only [Option.some.injEq] at hl hh; subst hh
    have : ln = 0 := by omega
    subst this
    simp [sb _ _ _ _ h3']
   ·cases hh
  ·split at hh
   ·simp only [Option.some.injEq] at hl hh; subst hl
    have : len = hn := by omega
    subst this
    simp [sb _ _ _ _ h2']
   ·simp only [Option.some.injEq] at hl hh; subst hl; subst hh
    simp [sb _ _ _ _ h2', sb _ _ _ _ h3']
   ·cases hh
  ·cases hl
 simp only [Instr.sliceAt, Sem.run_bind, run_underlying w ht, Result.andThen_ok, Instr.slice, hb, run_sizeOf w hi, Sem.run_pure, Int.toNat_natCast]
theorem ran_sliceS {t : TypeId} {x : Value} {lo hi : Option Value} (ht : P.underlying t = some .string) (h : sliceSW x lo hi K w) : Ran P (Instr.sliceAt t x lo hi none) K w := by
 unfold sliceSW at h
 split at h <;> try exact h.elim
 rename_i s k1 a k2 b
 obtain ⟨h1, h2, h3, h⟩ := h
 obtain ⟨ln, rfl⟩ := Int.eq_ofNat_of_zero_le h1
 obtain ⟨hn, rfl⟩ := Int.eq_ofNat_of_zero_le (Int.le_trans h1 h2)
 have h2' : ln ≤ hn := by omega
 have h3' : hn ≤ s.size := by omega
 refine ⟨_, w, ?_, h⟩
 have sb : ∀ (k : IntKind) (i y : Nat) (c : BoundsCode), i ≤ y → (Instr.sliceBound (.int k i) y c).run P w = .ok i w := by
  intro k i y c hiy
  unfold Instr.sliceBound
  simp only [asIntOf, Sem.run_bind, Sem.run_pure, Result.andThen_ok]
  rw [if_pos (by omega)]
  simp
 have hb : (Instr.sliceBounds false s.size s.size (some (.int k1 ln)) (some (.int k2 hn)) none).run P w = .ok (ln, hn, s.size) w := by
  unfold Instr.sliceBounds
  simp [sb _ _ _ _ h2', sb _ _ _ _ h3']
 simp only [Instr.sliceAt, Sem.run_bind, run_underlying w ht, Result.andThen_ok, Instr.slice, Option.isSome_none, Bool.false_eq_true, if_false, hb, Sem.run_pure, Int.toNat_natCast]
theorem run_firstCells {b o n sz c : Nat} {cs : List Value} (h : mem w b = some cs) (hn : o + n * sz ≤ cs.length) : (Builtin.firstCells sz n (.slice (some ⟨b, o, none⟩) n c)).run P w = .ok ((cs.drop o).take (n * sz)).toArray w := by
 simp only [Builtin.firstCells]
 exact run_loadCells h hn
theorem src_run {sz : Nat} {x : Value} {n : Nat} {new : List Value} (h : srcCells sz x w = some (n, new)) : ∃ a c, x = .slice a n c ∧ (Builtin.firstCells sz n x).run P w = .ok new.toArray w ∧ new.length = n * sz := by
 unfold srcCells at h
 split at h
 ·split at h
  ·cases h; rename_i hn; subst hn; exact ⟨_, _, rfl, by simp [Builtin.firstCells], by simp⟩
  ·cases h
 ·split at h
  ·cases h; rename_i hn; subst hn; exact ⟨_, _, rfl, by simp [Builtin.firstCells, loadCells, loadCellsFrom], by simp⟩
  ·split at h
   ·split at h
    ·rename_i hm
     split at h
     ·rename_i hn
      cases h
      exact ⟨_, _, rfl, run_firstCells hm hn, by simp; omega⟩
     ·cases h
    ·cases h
   ·cases h
 ·cases h
theorem toList_zeroCells (z : Array Value) (n : Nat) : (Builtin.zeroCells z n).toList.length = n * z.size := by simp [Builtin.zeroCells]
theorem ran_append {t e ty : TypeId} {i : TypeInfo} {z : Value} {s x : Value} (ht : P.underlying t = some (.slice e)) (hi : P.info? e = some i) (hz : i.zero = some z) (hs : z.cells.size = i.size)
  (h : appendW i.size i.bytes s x K w) : Ran P (Builtin.append_ #[t, t] ty #[s, x]) K w := by
 unfold appendW at h
 split at h <;> try exact h.elim
 rename_i a len cap n new hsrc
 obtain ⟨xa, xc, hx, hxr, hnl⟩ := src_run (P := P) hsrc
 have hxl : (Builtin.lenOf x).run P w = .ok n w := by rw [hx]; rfl
 have grow : ∀ (old : List Value), len + n ≤ maxLen → (len + n) * i.bytes ≤ 140737488355328 → cap < len + n → (Builtin.firstCells i.size len (.slice a len cap)).run P w.drew = .ok old.toArray w.drew →
   (∀ (c : Nat) (rest : List Value) T, len + n ≤ c → c ≤ maxLen → rest.length = (c - (len + n)) * i.size → K (.slice (some ⟨w.heap.size, 0, none⟩) (len + n) c) (w.drew.alloc (.cells (old ++ new ++ rest).toArray T))) →
   Ran P (Builtin.append_ #[t, t] ty #[.slice a len cap, x]) K w := by
  intro old h63 hb hc hold hK
  have hfit := growslice_fits hc hb
  have h63' : len + n ≤ 9223372036854775807 := by simp only [maxLen] at h63; omega
  have hxr' : (Builtin.firstCells i.size n x).run P w.drew = .ok new.toArray w.drew := (src_run (P := P) (w := w.drew) (x := x) hsrc).elim fun _ h => h.elim fun _ h => h.2.1
  refine ⟨_, _, ?_, hK ((Question.appendCap (len + n) cap e).cut (w.tape w.drawn (.appendCap (len + n) cap e))) (Builtin.zeroCells z.cells ((Question.appendCap (len + n) cap e).cut (w.tape w.drawn (.appendCap (len + n) cap e)) - (len + n))).toList e ?_ ?_ ?_⟩
  ·have hc0 : ¬ len + n ≤ cap := by omega
   have hc1 : ¬ (((len + n : Nat) : Int) > IntKind.i64.max ∧ (False ∨ i.bytes = 0)) := by
    intro hh
    have : IntKind.i64.max = 9223372036854775807 := rfl
    omega
   have hc2 : ¬ Builtin.nextslicecap (len + n) cap * i.bytes > 2 ^ 48 := by
    have : (2 : Nat) ^ 48 = 281474976710656 := by decide
    omega
   simp only [Builtin.append_, List.getElem?_toArray, List.getElem?_cons_zero, List.getElem?_cons_succ, Sem.run_bind, run_underlying w ht, Result.andThen_ok, run_sizeOf w hi, Sem.run_pure, Bool.false_eq_true, if_false, hxl, if_neg hc0,
    run_typeInfo w hi, Bool.not_false, if_true]
   rw [if_neg hc1]
   simp only [Sem.run_bind, run_typeInfo w hi, Result.andThen_ok, if_neg hc2]
   have hch : (choose (Question.appendCap (len + n) cap e)).run P w = .ok ((Question.appendCap (len + n) cap e).cut (w.tape w.drawn (.appendCap (len + n) cap e))) w.drew := by
    rw [run_choose_drew]; rfl
   simp only [hch, Result.andThen_ok, run_typeInfo w.drew hi, run_askRoom, hold, hxr', run_zeroValue w.drew hi hz, run_newRow, Sem.run_pure]
   congr 3
   apply Array.toList_inj.1
   simp
  ·simp only [Question.cut]; omega
  ·simp only [Question.cut, maxLen]
   have := Nat.mod_lt (w.tape w.drawn (.appendCap (len + n) cap e)) (show 0 < 2 ^ 63 - (len + n) by omega)
   omega
  ·rw [toList_zeroCells, hs]
 split at h
 ·obtain ⟨rfl, rfl, h2, h3, h4, h5⟩ := h
  rcases Nat.eq_zero_or_pos n with rfl | hn
  ·have hnew : new = [] := List.eq_nil_of_length_eq_zero (by simpa using hnl)
   refine ⟨_, w, ?_, h4 rfl⟩
   simp only [Builtin.append_, List.getElem?_toArray, List.getElem?_cons_zero, List.getElem?_cons_succ, Sem.run_bind, run_underlying w ht, Result.andThen_ok, run_sizeOf w hi, Sem.run_pure, Bool.false_eq_true, if_false, hxl,
    Bool.not_false, if_true, Nat.add_zero, Nat.le_refl, hxr]
  ·refine grow [] (by omega) (by simpa using h2) (by omega) (by simp [Builtin.firstCells]) ?_
   simpa using h5 hn
 ·rename_i b o
  split at h <;> try exact h.elim
  rename_i cs hm
  obtain ⟨h1, h2, h3, h4, h5, h6⟩ := h
  have hlc : len * i.size ≤ cap * i.size := Nat.mul_le_mul_right _ h2
  rcases Nat.lt_or_ge cap (len + n) with hc | hc
  ·exact grow _ h4 h3 hc (run_firstCells (w := w.drew) (by simpa using hm) (by omega)) (h6 hc)
  ·obtain ⟨h7, h8, h9⟩ := h5 hc
   refine ⟨_, _, ?_, h9⟩
   have hle : (len + n) * i.size ≤ cap * i.size := Nat.mul_le_mul_right _ hc
   rw [Nat.add_mul] at hle
   have hst : (storeCells (⟨b, o + len * i.size, none⟩ : Addr) new).run P w = .ok () (put w b (seg cs (o + len * i.size) new)) := by
    rcases h7 with rfl | h7
    ·have hnew : new = [] := List.eq_nil_of_length_eq_zero (by simpa using hnl)
     subst hnew
     simp [storeCells, seg, put_same hm]
    ·have := run_storeCells (P := P) new cs w (o + len * i.size) 0 hm h7 h8 (by omega)
     simpa using this
   simp only [Builtin.append_, List.getElem?_toArray, List.getElem?_cons_zero, List.getElem?_cons_succ, Sem.run_bind, run_underlying w ht, Result.andThen_ok, run_sizeOf w hi, Sem.run_pure, Bool.false_eq_true, if_false, hxl,
    Bool.not_false, if_true, if_pos hc, hxr, add_none, hst]
 ·exact h.elim
end
end Go.Proofs.YtoealglbimbbmaaGreatDoor.S
