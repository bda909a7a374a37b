/-
  FRAMES; A LIST OF OPERATIONS IN THE ORDER OF THE TEXT; A REGION THAT DRAWS ITS ORDER, by a plan: what only reads is taken first; whatever may come up of the rest comes up; what was read is held against what may come ahead of it.
-/
import Derived.Test.YtokbiojkpldfeaaGreatSEval
import Derived.OrdersHeld
namespace Go.Proofs.YtokbiojkpldfeaaGreat.S
open Go

/-- a frame: what is known of its slots, the latest first -/
abbrev Fr := List (Nat × Option Value)
abbrev KF := Fr → World → Prop

noncomputable abbrev slot (fr : Fr) (t : Nat) : Option Value := List.rec (motive := fun _ => Option Value) none (fun p _ ih => cond (Nat.beq p.1 t) p.2 ih) fr

theorem slot_nil (t : Nat) : slot [] t = none := rfl
theorem slot_cons (p : Nat × Option Value) (fr : Fr) (t : Nat) : slot (p :: fr) t = if p.1 = t then p.2 else slot fr t := by
  show cond (Nat.beq p.1 t) p.2 (slot fr t) = _
  by_cases h : p.1 = t
  · subst h; simp
  · rw [if_neg h]
    have : Nat.beq p.1 t = false := by
      rw [Bool.eq_false_iff]; intro hb; exact h (Nat.eq_of_beq_eq_true hb)
    rw [this]; rfl

noncomputable abbrev rd (fr : Fr) : Operand → Option Value
  | .tmp t => slot fr t
  | .const v => some v
  | .global g => some (.pointer (some ⟨g, 0, none⟩))
  | .func f => some (.func (.func f) #[] #[])

abbrev putF (fr : Fr) (dst : Option Tmp) (v : Value) : Fr := match dst with | some d => (d, some v) :: fr | none => fr

def FRel (n : Nat) (fr : Fr) (a : Act) : Prop := a.tmps.size = n ∧ ∀ t v, slot fr t = some v → a.tmps[t]? = some v

theorem FRel.rd {n : Nat} {fr : Fr} {a : Act} (h : FRel n fr a) : ∀ x v, rd fr x = some v → a.eval x = v := by
  intro x v hx
  cases x with
  | tmp t => simp only [S.rd] at hx; simp [Act.eval, Array.getD_eq_getD_getElem?, h.2 t v hx]
  | const u => simp [S.rd] at hx; exact hx
  | global g => simp [S.rd] at hx; exact hx
  | func f => simp [S.rd] at hx; exact hx

theorem FRel.put {n : Nat} {fr : Fr} {a : Act} (h : FRel n fr a) (dst : Option Tmp) (v : Value) (hd : ∀ d, dst = some d → d < n) : FRel n (putF fr dst v) (a.put dst v) := by
  cases dst with
  | none => exact h
  | some d =>
    have hlt := hd d rfl
    refine ⟨by simp [Act.put, h.1], fun t u hu => ?_⟩
    simp only [putF] at hu
    rw [slot_cons] at hu
    simp only at hu
    simp only [Act.put]
    by_cases ht : d = t
    · subst ht
      rw [if_pos rfl] at hu
      cases hu
      simp [h.1, hlt]
    · rw [if_neg ht] at hu
      simp [ht, h.2 t u hu]

def isB (v : Value) (want : Bool) : Bool := match v with | .bool b => b == want | _ => false

noncomputable abbrev gval (all : List Oper) (fr : Fr) (j : Nat) : Option Value := match nth all j with | some o => (match o.dst with | some t => slot fr t | none => none) | none => none

theorem wanted_gval {n : Nat} {ops : Array Oper} {fr : Fr} {a : Act} {o : Oper} {j : Nat} {want : Bool} {v : Value} (h : FRel n fr a) (hg : o.guard = some (j, want)) (hv : gval ops.toList fr j = some v) :
    Region.wanted o (yielded ops a.tmps) = isB v want := by
  unfold gval at hv
  split at hv
  · rename_i oj hj
    split at hv
    · rename_i t ht
      have := h.2 t v hv
      rw [nth_eq] at hj
      have hj' : ops[j]? = some oj := by simpa using hj
      simp only [Region.wanted, hg, yielded, hj', Option.bind_some, ht, this]
      cases v <;> simp [isB]
    · cases hv
  · cases hv

def gW (v : Value) (want : Bool) (A : KV → World → Prop) (K : KV) (w : World) : Prop := (isB v want = true → A K w) ∧ (isB v want = false → K undef w)

noncomputable abbrev stepOp (E : Env) (all : List Oper) (fr : Fr) (o : Oper) (K : KV) (w : World) : Prop :=
  match o.guard with
  | none => evalOp E (rd fr) o.op K w
  | some (j, want) => match gval all fr j with
    | some v => gW v want (fun K w => evalOp E (rd fr) o.op K w) K w
    | none => False

noncomputable abbrev evalOps (E : Env) (all : List Oper) : List Oper → Fr → KF → World → Prop
  | [], fr, k, w => k fr w
  | o :: l, fr, k, w => stepOp E all fr o (fun v w => evalOps E all l (putF fr o.dst v) k w) w

section
variable {E : Env} (hE : E.OK) {ops : Array Oper}
include hE

theorem step_sound {n : Nat} {o : Oper} {fr : Fr} {a : Act} {K : KV} {w : World} {next : Act → World → Prop} {Q : Exit → Act → World → Prop} (hfr : FRel n fr a) (h : stepOp E ops.toList fr o K w)
    (hK : ∀ v w', K v w' → next (a.put o.dst v) w') : if Region.wanted o (yielded ops a.tmps) = true then o.wp E.P a w next Q else next (a.put o.dst undef) w := by
  unfold stepOp at h
  split at h
  · rename_i hg
    rw [if_pos (by simp [Region.wanted, hg])]
    exact op_sound hE hfr.rd h hK
  · rename_i j want hg
    split at h <;> try exact h.elim
    rename_i v hv
    rw [wanted_gval hfr hg hv]
    split
    · rename_i hb; exact op_sound hE hfr.rd (h.1 hb) hK
    · rename_i hb; exact hK _ _ (h.2 (by simpa using hb))

theorem evalOps_sound {n : Nat} {Q : Exit → Act → World → Prop} {R : Act → Act → Prop} (hRr : ∀ a, R a a) (hRt : ∀ a b c, R a b → R b c → R a c) :
    ∀ (l : List Oper) (_ : ∀ o ∈ l, ∀ a v, R a (a.put o.dst v)) (_ : ∀ o ∈ l, ∀ d, o.dst = some d → d < n) (fr : Fr) (a : Act) (w : World) (k : KF), FRel n fr a → evalOps E ops.toList l fr k w →
    (∀ fr' a' w', FRel n fr' a' → R a a' → k fr' w' → Q .normal a' w') → wpList E.P ops Q l a w
  | [], _, _, fr, a, w, k, hfr, h, hk => hk fr a w hfr (hRr a) h
  | o :: l, hRp, hlt, fr, a, w, k, hfr, h, hk => by
    refine wpList_step fun K' hK' => ?_
    have := step_sound hE (next := K') (Q := Q) hfr h (fun v w' hv => hK' _ _ (evalOps_sound hRr hRt l (fun o ho => hRp o (List.mem_cons_of_mem _ ho)) (fun o ho => hlt o (List.mem_cons_of_mem _ ho)) _ _ w' k (hfr.put o.dst v (hlt o (by simp))) hv
      (fun fr' a' w'' h1 h2 h3 => hk fr' a' w'' h1 (hRt _ _ _ (hRp o (by simp) a v) h2) h3)))
    exact this

end

/-! ### the plan -/
inductive Plan where
  | done
  | take (i : Nat) (rest : Plan)
  | run (j : Nat) (hs : List Nat) (rest : Plan)
  | both (p q : Plan)

abbrev isLoad : Op → Bool
  | .load .. => true
  | _ => false

/-- an operation whose value hangs on no world, and that turns none -/
abbrev isPure : Op → Bool
  | .move _ | .assign _ | .pick .. | .binOp .. | .unOp .. | .convert .. | .extract .. | .nilCheck _ | .fieldAddr .. | .field .. | .indexAddr .. | .makeFunc .. | .build .. | .slice .. => true
  | .call { callee := .builtin .len, .. } | .call { callee := .builtin .max, .. } | .call { callee := .builtin .min, .. } => true
  | _ => false

abbrev heldAll (hs : List Nat) : List (Nat × (World → Prop)) → World → Prop
  | [], _ => True
  | (i, S) :: l, w => (match hs.contains i with | true => S w | false => True) ∧ heldAll hs l w

noncomputable abbrev evalPlan (E : Env) (all : List Oper) : Plan → Fr → List (Nat × (World → Prop)) → KF → World → Prop
  | .done, fr, _, k, w => k fr w
  | .take i r, fr, tk, k, w => match nth all i with
    | some o => stepOp E all fr o (fun v w => evalPlan E all r (putF fr o.dst v) (match isLoad o.op with | true => (i, fun w' => stepOp E all fr o (fun v' _ => v' = v) w') :: tk | false => tk) k w) w
    | none => False
  | .run j hs r, fr, tk, k, w => match nth all j with
    | some o => stepOp E all fr o (fun v w => heldAll hs tk w ∧ evalPlan E all r (putF fr o.dst v) (tk.filter fun p => hs.contains p.1) k w) w
    | none => False
  | .both p q, fr, tk, k, w => evalPlan E all p fr tk k w ∧ evalPlan E all q fr tk k w

def heads : Plan → List Nat
  | .run j _ _ => [j]
  | .both p q => heads p ++ heads q
  | _ => []

def depth : Plan → Nat
  | .done => 0
  | .take _ r => depth r + 1
  | .run _ _ r => depth r + 1
  | .both p q => max (max (depth p) (depth q)) 1

/-- the plan fits the region: 'ms': of each operation those that come ahead of it for sure -/
def okPlan (ops : Array Oper) (ms : List Nat) : Plan → Bool → Array Bool → List Nat → Bool
  | .done, _, listed, _ => (Region.ready .any ops listed).isEmpty
  | .take i r, _, listed, tk => match ops[i]? with
    | some o => (isPure o.op || isLoad o.op) && (Region.ready .any ops listed).contains i && Region.free .any ops listed i && okPlan ops ms r true (listed.setIfInBounds i true) (if isLoad o.op = true then i :: tk else tk)
    | none => false
  | .run j hs r, top, listed, tk => (!top || (Region.ready .any ops listed).all (· == j)) && (Region.ready .any ops listed).contains j && (tk.all fun i => hs.contains i || ((nth ms j).getD 0).testBit i) && okPlan ops ms r true (listed.setIfInBounds j true) (tk.filter fun i => hs.contains i)
  | .both p q, top, listed, tk => !(Region.ready .any ops listed).isEmpty && (!top || (Region.ready .any ops listed).all (fun j => (heads p ++ heads q).contains j)) && okPlan ops ms p false listed tk && okPlan ops ms q false listed tk

def okMs (ops : Array Oper) (ms : List Nat) : Bool :=
  (List.range ops.size).all fun j => (List.range ops.size).all fun i => !((nth ms j).getD 0).testBit i ||
    (match ops[j]? with | some o => o.after.any fun e => Region.binds .any e && decide (e.on < j) && (e.on == i || ((nth ms e.on).getD 0).testBit i) | none => false)

/-! ### the same check over bit masks: what the kernel reckons -/
/-- a plan, the bits of what has come up written out behind each step -/
inductive PlanB where
  | done
  | take (i L : Nat) (rest : PlanB)
  | run (j : Nat) (hs : List Nat) (L : Nat) (rest : PlanB)
  | both (p q : PlanB)

abbrev PlanB.plan : PlanB → Plan
  | .done => .done
  | .take i _ r => .take i r.plan
  | .run j hs _ r => .run j hs r.plan
  | .both p q => .both p.plan q.plan

/-- what a region's plan rests on: of each operation those that it waits for, those that come ahead of it for sure (bits), the plan -/
structure Draw where
  am : List Nat
  ms : List Nat
  plan : PlanB

abbrev edgeMask : List Edge → Nat
  | [] => 0
  | e :: l => match Region.binds .any e with | true => (2 ^ e.on) ||| edgeMask l | false => edgeMask l

/-- the edges' bits, and the closure's -/
abbrev okAm : List Oper → List Nat → Bool
  | [], [] => true
  | o :: l, a :: as => Nat.beq (edgeMask o.after.toList) a && okAm l as
  | _, _ => false

abbrev closMask (ms : List Nat) (j : Nat) : List Edge → Option Nat
  | [] => some 0
  | e :: l => match Region.binds .any e, closMask ms j l with
    | true, some m => match Nat.blt e.on j with | true => some (((2 ^ e.on) ||| (nth ms e.on).getD 0) ||| m) | false => none
    | false, some m => some m
    | _, none => none

abbrev okMsB (ms : List Nat) : Nat → List Oper → List Nat → Bool
  | _, [], [] => true
  | j, o :: l, m :: r => (match closMask ms j o.after.toList with | some c => Nat.beq c m | none => false) && okMsB ms (j + 1) l r
  | _, _, _ => false

/-- may it come up? -/
abbrev rdyB (a L i : Nat) : Bool := !(L.testBit i) && Nat.beq (a &&& L) a

/-- none but these may come up -/
abbrev onlyB (L : Nat) (hs : List Nat) : Nat → List Nat → Bool
  | _, [] => true
  | i, a :: as => (!(rdyB a L i) || hs.contains i) && onlyB L hs (i + 1) as

abbrev freeB (L i : Nat) (oi : Oper) (ops : Array Oper) : Nat → List Oper → List Nat → Bool
  | _, [], [] => true
  | j, o :: l, a :: as => (Nat.beq j i || L.testBit j || a.testBit i || oi.apart ops o) && freeB L i oi ops (j + 1) l as
  | _, _, _ => false

abbrev headsB : PlanB → List Nat
  | .run j _ _ _ => [j]
  | .both p q => headsB p ++ headsB q
  | _ => []

abbrev okB (ops : Array Oper) (all : List Oper) (am ms : List Nat) : PlanB → Bool → Nat → List Nat → Bool
  | .done, _, L, _ => onlyB L [] 0 am
  | .take i L' r, _, L, tk => match nth all i, nth am i with
    | some o, some a => (isPure o.op || isLoad o.op) && rdyB a L i && freeB L i o ops 0 all am && Nat.beq L' (L ||| 2 ^ i) && okB ops all am ms r true L' (match isLoad o.op with | true => i :: tk | false => tk)
    | _, _ => false
  | .run j hs L' r, top, L, tk => match nth am j with
    | some a => (!top || onlyB L [j] 0 am) && rdyB a L j && (tk.all fun i => hs.contains i || ((nth ms j).getD 0).testBit i) && Nat.beq L' (L ||| 2 ^ j) && okB ops all am ms r true L' (tk.filter fun i => hs.contains i)
    | none => false
  | .both p q, top, L, tk => !(onlyB L [] 0 am) && (!top || onlyB L (headsB p ++ headsB q) 0 am) && okB ops all am ms p false L tk && okB ops all am ms q false L tk

abbrev okDraw (ops : Array Oper) (d : Draw) : Bool :=
  Region.noSelect ops && okAm ops.toList d.am && okMsB d.ms 0 ops.toList d.ms && okB ops ops.toList d.am d.ms d.plan true 0 [] && Nat.ble (depth d.plan.plan) ops.size

noncomputable abbrev evalDraw (E : Env) (ops : Array Oper) (d : Draw) (fr : Fr) (k : KF) (w : World) : Prop :=
  match okDraw ops d with | true => evalPlan E ops.toList d.plan.plan fr [] k w.drew | false => False

end Go.Proofs.YtokbiojkpldfeaaGreat.S
