/-
  EACH WORD OF THE PLAIN FORM IS WHAT THE MODEL'S OPERATION DOES.
-/
import Derived.Test.YtokbiojkpldfeaaGreatSPrim
namespace Go.Proofs.YtokbiojkpldfeaaGreat.S
open Go

def Ran (P : Program) (s : Sem Value) (K : KV) (w : World) : Prop := ∃ v w', s.run P w = .ok v w' ∧ K v w'

section
variable {P : Program} {K : KV} {w : World}

theorem ran_load1 {t : TypeId} {d : TypeDesc} {a : Value} (hd : P.underlying t = some d) (hg : isAggD d = false) (h : load1W a K w) : Ran P (Instr.loadAt t a) K w := by
  unfold load1W at h
  split at h <;> try exact h.elim
  split at h <;> try exact h.elim
  rename_i b i cs hm
  unfold onSome at h
  split at h <;> try exact h.elim
  rename_i v hv
  exact ⟨v, w, by simp [Instr.loadAt, Instr.sureAddr, loadVar, run_isAgg w hd, hg, cell_mem hm, hv], h⟩

theorem ran_loadN {t : TypeId} {d : TypeDesc} {i : TypeInfo} {a : Value} (hd : P.underlying t = some d) (hi : P.info? t = some i) (hg : isAggD d = true) (h : loadNW i.size a K w) : Ran P (Instr.loadAt t a) K w := by
  unfold loadNW at h
  split at h <;> try exact h.elim
  split at h <;> try exact h.elim
  rename_i b o cs hm
  exact ⟨_, w, by simp [Instr.loadAt, Instr.sureAddr, loadVar, run_isAgg w hd, hg, run_sizeOf w hi, run_loadCells hm h.1], h.2⟩

theorem run_store {t : TypeId} {i : TypeInfo} {a v : Value} (hi : P.info? t = some i) (h : storeW i.size a v K w) : ∃ w', (Instr.storeAt t a v).run P w = .ok () w' ∧ K undef w' := by
  unfold storeW at h
  split at h <;> try exact h.elim
  rename_i b o
  split at h <;> try exact h.elim
  rename_i cs hm
  obtain ⟨h1, h2, h3, h4, h5⟩ := h
  refine ⟨_, ?_, h5⟩
  have := run_storeCells (P := P) v.cells.toList cs w o 0 hm h3 h2 (by simp; omega)
  simp only [Nat.add_zero] at this
  simp [Instr.storeAt, Instr.sureAddr, storeVar, run_sizeOf w hi, h1, this]

theorem ran_new {t : TypeId} {c : Array Value} (h : newW c K w) : Ran P (do pure (.pointer (some (← newRow t c)))) K w :=
  ⟨_, _, by simp only [Sem.run_bind, run_newRow, Result.andThen_ok, Sem.run_pure], h t⟩

theorem ran_fieldAddr {s : TypeId} {fs : Array Field} {f : Nat} {fd : Field} {i : TypeInfo} {x : Value} (hs : P.underlying s = some (.struct fs)) (hf : fs[f]? = some fd) (hi : P.info? fd.type = some i)
    (h0 : i.size ≠ 0) (h : addW fd.offset x K w) : Ran P (Instr.fieldAt s x f) K w := by
  unfold addW at h
  split at h <;> try exact h.elim
  exact ⟨_, w, by simp [Instr.fieldAt, run_underlying w hs, hf, Instr.sureAddr, fieldPlace, run_sizeOf w hi, h0, add_none], h⟩

theorem ran_idx {t e : TypeId} {i : TypeInfo} {x ix : Value} (ht : P.underlying t = some (.slice e)) (hi : P.info? e = some i) (h : idxW i.size x ix K w) : Ran P (Instr.indexAt t x ix) K w := by
  unfold idxW at h
  split at h <;> try exact h.elim
  obtain ⟨h1, h2, h3⟩ := h
  exact ⟨_, w, by simp [Instr.indexAt, asIntOf, run_underlying w ht, run_sizeOf w hi, h1, h2, add_none], h3⟩

theorem ran_idxArr {t e : TypeId} {n : Nat} {i : TypeInfo} {x ix : Value} (ht : P.underlying t = some (.array n e)) (hi : P.info? e = some i) (h : idxArrW n i.size x ix K w) : Ran P (Instr.indexAt t x ix) K w := by
  unfold idxArrW at h
  split at h <;> try exact h.elim
  obtain ⟨h1, h2, h3⟩ := h
  exact ⟨_, w, by simp [Instr.indexAt, asIntOf, Instr.sureAddr, run_underlying w ht, run_sizeOf w hi, h1, h2, add_none], h3⟩

theorem run_part {t : TypeId} {d : TypeDesc} {i : TypeInfo} {cs : Array Value} {o : Nat} (hd : P.underlying t = some d) (hi : P.info? t = some i) (h : partW (isAggD d) o i.size (.agg cs) K w) : Ran P (part t cs o) K w := by
  unfold partW at h
  simp only at h
  unfold Ran part
  simp only [Sem.run_bind, run_isAgg w hd, Result.andThen_ok]
  cases hg : isAggD d
  · simp only [hg, Bool.false_eq_true, if_false] at h ⊢
    unfold onSome at h
    split at h <;> try exact h.elim
    rename_i v hv
    exact ⟨v, w, by simp [hv], h⟩
  · simp only [hg, if_true] at h ⊢
    exact ⟨_, w, by simp [run_sizeOf w hi], h⟩

theorem ran_field {s : TypeId} {fs : Array Field} {f : Nat} {fd : Field} {d : TypeDesc} {i : TypeInfo} {x : Value} (hs : P.underlying s = some (.struct fs)) (hf : fs[f]? = some fd) (hd : P.underlying fd.type = some d)
    (hi : P.info? fd.type = some i) (h : partW (isAggD d) fd.offset i.size x K w) : Ran P (Instr.field s x f) K w := by
  cases x <;> try exact h.elim
  obtain ⟨v, w', hr, hk⟩ := run_part hd hi h
  exact ⟨v, w', by simp [Instr.field, run_underlying w hs, hf, asAgg, hr], hk⟩

theorem ran_extract {x : Value} {i : Nat} (h : extractW i x K w) : Ran P (Instr.extract x i) K w := by
  unfold extractW at h
  split at h <;> try exact h.elim
  unfold onSome at h
  split at h <;> try exact h.elim
  rename_i v hv
  exact ⟨v, w, by simp [Instr.extract, hv], h⟩

theorem ran_len {t e : TypeId} {x : Value} {ty : TypeId} (ht : P.underlying t = some (.slice e)) (h : lenW x K w) : Ran P (Builtin.len_ #[t] ty #[x]) K w := by
  unfold lenW at h
  split at h <;> try exact h.elim
  exact ⟨_, w, by simp [Builtin.len_, run_underlying w ht, goInt], h⟩

theorem fold_run (f : Value → Value → Option Value) (g : Value → Value → Sem Value) (hfg : ∀ x y z, f x y = some z → (g x y).run P w = .ok z w) :
    ∀ (l : List Value) (x z : Value), foldV f x l = some z → (l.foldlM g x).run P w = .ok z w
  | [], x, z, h => by simp [foldV] at h; simp [h]
  | y :: l, x, z, h => by
    simp only [foldV] at h
    split at h
    · rename_i u hu
      simp only [List.foldlM_cons, Sem.run_bind, hfg _ _ _ hu, Result.andThen_ok]
      exact fold_run f g hfg l u z h
    · exact (by cases h)

theorem ran_max {x : Value} {l : List Value} {ts : Array TypeId} {ty : TypeId} (h : maxW x l K w) : Ran P (Builtin.max_ ts ty (x :: l).toArray) K w := by
  unfold maxW onSome at h
  split at h <;> try exact h.elim
  rename_i v hv
  refine ⟨v, w, ?_, h⟩
  simp only [Builtin.max_]
  exact fold_run max2V Builtin.max2 (fun x y z hz => by cases x <;> cases y <;> simp [max2V] at hz; subst hz; simp [Builtin.max2]) l x v hv

theorem ran_min {x : Value} {l : List Value} {ts : Array TypeId} {ty : TypeId} (h : minW x l K w) : Ran P (Builtin.min_ ts ty (x :: l).toArray) K w := by
  unfold minW onSome at h
  split at h <;> try exact h.elim
  rename_i v hv
  refine ⟨v, w, ?_, h⟩
  simp only [Builtin.min_]
  exact fold_run min2V Builtin.min2 (fun x y z hz => by cases x <;> cases y <;> simp [min2V] at hz; subst hz; simp [Builtin.min2]) l x v hv

theorem ran_binInt {t : TypeId} {op : BinOp} {x y : Value} (h : binIntW op x y K w) : Ran P (binOp op t x y) K w := by
  unfold binIntW at h
  split at h <;> try exact h.elim
  rename_i k a k' b
  split at h
  · exact ⟨_, w, by simp [binOp, Op.shift, show ¬ b < 0 by omega], h.2⟩
  · exact ⟨_, w, by simp [binOp, Op.shift, show ¬ b < 0 by omega], h.2⟩
  · rename_i h1 h2
    obtain ⟨rfl, h⟩ := h
    unfold onSome at h
    split at h <;> try exact h.elim
    rename_i v hv
    refine ⟨v, w, ?_, h⟩
    cases op <;> simp [intBin] at hv h1 h2 <;> (try subst hv) <;> (try simp [binOp, Op.intArith, Op.intBits, Op.intCmp]) <;> (obtain ⟨hb, rfl⟩ := hv; simp [Op.intDiv, hb])

theorem eqIn_bool {t : TypeId} (n : Nat) (a b : Bool) (ht : P.underlying t = some .bool) : (Op.equalIn (n + 1) t (.bool a) (.bool b)).run P w = .ok (a == b) w := by
  simp [Op.equalIn, run_underlying w ht]
theorem eqIn_int {t : TypeId} {k : IntKind} (n : Nat) (k' : IntKind) (a b : Int) (ht : P.underlying t = some (.int k)) : (Op.equalIn (n + 1) t (.int k' a) (.int k' b)).run P w = .ok (a == b) w := by
  simp [Op.equalIn, run_underlying w ht]
theorem eqIn_nil {t e : TypeId} (n : Nat) (b : Option Addr) (ht : P.underlying t = some (.pointer e)) : (Op.equalIn (n + 1) t (.pointer none) (.pointer b)).run P w = .ok b.isNone w := by
  simp [Op.equalIn, run_underlying w ht]
theorem eqIn_nil' {t e : TypeId} (n : Nat) (b : Addr) (ht : P.underlying t = some (.pointer e)) : (Op.equalIn (n + 1) t (.pointer (some b)) (.pointer none)).run P w = .ok false w := by
  simp [Op.equalIn, run_underlying w ht]
theorem eqIn_nilS {t e : TypeId} (n : Nat) (b : Option Addr) (i j l c : Nat) (ht : P.underlying t = some (.slice e)) : (Op.equalIn (n + 1) t (.slice none i j) (.slice b l c)).run P w = .ok b.isNone w := by
  simp [Op.equalIn, run_underlying w ht]
theorem eqIn_nilS' {t e : TypeId} (n : Nat) (b : Addr) (i j l c : Nat) (ht : P.underlying t = some (.slice e)) : (Op.equalIn (n + 1) t (.slice (some b) l c) (.slice none i j)).run P w = .ok false w := by
  simp [Op.equalIn, run_underlying w ht]

/-- '==' and '!=' of operands that are no numbers -/
theorem ran_eq {t : TypeId} {op : BinOp} {x y : Value} {r : Bool} (hx : ∀ op', binOp op' t x y = match (op' : BinOp) with | .eql => (do pure (.bool (← Op.equal t x y))) | .neq => (do pure (.bool (!(← Op.equal t x y)))) | _ => binOp op' t x y)
    (hr : (Op.equal t x y).run P w = .ok r w) (h : eqW op r K w) : Ran P (binOp op t x y) K w := by
  unfold eqW at h
  split at h <;> try exact h.elim
  · exact ⟨_, w, by rw [hx]; simp only [Sem.run_bind, hr, Result.andThen_ok, Sem.run_pure], h⟩
  · exact ⟨_, w, by rw [hx]; simp only [Sem.run_bind, hr, Result.andThen_ok, Sem.run_pure], h⟩

theorem ran_binBool {t : TypeId} {op : BinOp} {x y : Value} (ht : P.underlying t = some .bool) (h : binBoolW op x y K w) : Ran P (binOp op t x y) K w := by
  unfold binBoolW at h
  split at h <;> try exact h.elim
  exact ran_eq (fun op' => by cases op' <;> rfl) (eqIn_bool 9999 _ _ ht) h

theorem ran_eqNil {t e : TypeId} {op : BinOp} {x y : Value} (ht : P.underlying t = some (.pointer e)) (h : eqNilW op x y K w) : Ran P (binOp op t x y) K w := by
  unfold eqNilW at h
  split at h <;> try exact h.elim
  · exact ran_eq (fun op' => by cases op' <;> rfl) (eqIn_nil 9999 _ ht) h
  · exact ran_eq (fun op' => by cases op' <;> rfl) (eqIn_nil' 9999 _ ht) h

theorem ran_eqNilSlice {t e : TypeId} {op : BinOp} {x y : Value} (ht : P.underlying t = some (.slice e)) (h : eqNilSliceW op x y K w) : Ran P (binOp op t x y) K w := by
  unfold eqNilSliceW at h
  split at h <;> try exact h.elim
  · exact ran_eq (fun op' => by cases op' <;> rfl) (eqIn_nilS 9999 _ _ _ _ _ ht) h
  · exact ran_eq (fun op' => by cases op' <;> rfl) (eqIn_nilS' 9999 _ _ _ _ _ ht) h

/-- what '==' on structs of type t comes to (shown once for each such type) -/
def EqOK (P : Program) (t : TypeId) (ks : List CK) : Prop :=
  P.eqGuardType P.depth t = false ∧ ∀ (xs ys : List Value) (w : World), fits ks xs → fits ks ys → (Op.equal t (.agg xs.toArray) (.agg ys.toArray)).run P w = .ok (eqCells xs ys) w

theorem ran_eqAgg {t : TypeId} {ks : List CK} {op : BinOp} {x y : Value} (ht : EqOK P t ks) (h : eqAggW ks op x y K w) : Ran P (binOp op t x y) K w := by
  unfold eqAggW at h
  split at h <;> try exact h.elim
  obtain ⟨h1, h2, h3⟩ := h
  exact ran_eq (fun op' => by cases op' <;> rfl) (by simpa using ht.2 _ _ w h1 h2) h3

end
end Go.Proofs.YtokbiojkpldfeaaGreat.S
