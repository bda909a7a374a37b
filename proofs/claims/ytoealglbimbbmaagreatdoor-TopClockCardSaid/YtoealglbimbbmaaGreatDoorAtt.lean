/-
  AN ATTEMPT (package attempt): its object; what is told of it.
-/
import Derived.Test.YtoealglbimbbmaaGreatDoorInt
import Derived.Test.YtoealglbimbbmaaGreatDoorCommitW
import Derived.Test.YtoealglbimbbmaaGreatDoorReads
import Derived.Test.YtoealglbimbbmaaGreatDoorMem
namespace Go.Proofs.YtoealglbimbbmaaGreatDoor.S
open Go Go.Proofs
set_option linter.unusedVariables false
set_option linter.unusedSimpArgs false

/-- the machine at work -/
inductive Inn where
  | none
  | fetch (f : FetchS)
  | ext (x : ExtS)
  | com (x : ComS)

structure AttS where
  me : Int
  s : TSet
  run : IntS
  v : VwS
  rd : List TSeen
  state : Int
  inn : Inn
  begun : Bool
  beg : Int
  stamp : Int
  fin : Int
  by_ : Int
  err : Int

def InnR (k : Value × Value × Value × Value) : Inn → Asn
  | .none => pureA (k.2.2.2 = .pointer none)
  | .fetch f => exA fun p => star (pureA (k.1 = .iface 215 (ptr p 0) ∧ k.2.1 = ptr p 0 ∧ k.2.2.2 = .pointer none)) (ob FetchR p f)
  | .ext x => exA fun p => star (pureA (k.1 = .iface 216 (ptr p 0) ∧ k.2.2.1 = ptr p 0 ∧ k.2.2.2 = .pointer none)) (ob ExtR p x)
  | .com x => exA fun p => star (pureA (k.1 = .iface 217 (ptr p 0) ∧ k.2.2.2 = ptr p 0)) (ob ComR p x)

abbrev AttS.cells (x : AttS) (iv vf ve vc : Value) (pr pv pq : Nat) : List Value := [i64 x.me, i64 x.s.words, i64 x.s.stripes, i64 x.s.wide, i64 x.s.threads, u64 x.s.start, i64 x.s.spins, i64 x.s.writes, i64 x.s.fuel, ptr pr 0, .slice none 0 0, i64 0, ptr pv 0, ptr pq 0, i64 x.state, iv, vf, ve, vc, .bool x.begun, u64 x.beg, u64 x.stamp, i64 x.fin, i64 x.by_, i64 x.err, .bool false]
def AttR (b : Nat) (x : AttS) : Asn := exA fun iv => exA fun vf => exA fun ve => exA fun vc => exA fun pr => exA fun pv => exA fun pq => star (star (star (star (own b (x.cells iv vf ve vc pr pv pq)) (ob IntR (pr, pv) x.run)) (ob ViewR pv x.v)) (ob ReadsR pq (16, x.rd))) (ob InnR (iv, vf, ve, vc) x.inn)

section
variable {w0 : Base} {L M : List Asn} {K : KV} {F : World → Prop} {C : Asn → List Asn} {b pr pv pq : Nat} {x : AttS} {v iv vf ve vc : Value}

theorem AttR_open : G w0 (ob AttR b x :: M) F = ∀ iv vf ve vc pr pv pq, G w0 (own b (x.cells iv vf ve vc pr pv pq) :: ob IntR (pr, pv) x.run :: ob ViewR pv x.v :: ob ReadsR pq (16, x.rd) :: ob InnR (iv, vf, ve, vc) x.inn :: M) F := by
  rw [ob_eq, AttR]
  simp only [G_ex, G_star]
theorem AttR_close (b : Nat) (x : AttS) (iv vf ve vc : Value) (pr pv pq : Nat) [PickAll [own b (x.cells iv vf ve vc pr pv pq), ob IntR (pr, pv) x.run, ob ViewR pv x.v, ob ReadsR pq (16, x.rd), ob InnR (iv, vf, ve, vc) x.inn] L M] (H : G w0 (ob AttR b x :: M) F) : G w0 L F :=
  G.pickAll (As := [own b (x.cells iv vf ve vc pr pv pq), ob IntR (pr, pv) x.run, ob ViewR pv x.v, ob ReadsR pq (16, x.rd), ob InnR (iv, vf, ve, vc) x.inn]) (by rw [AttR_open] at H; exact H iv vf ve vc pr pv pq)

theorem Inn_none : G w0 (ob InnR (iv, vf, ve, vc) .none :: M) F = (vc = .pointer none → G w0 M F) := by
  rw [ob_eq, InnR]; simp only [G_pure]
theorem Inn_fetch {f : FetchS} : G w0 (ob InnR (iv, vf, ve, vc) (.fetch f) :: M) F = ∀ p, (iv = .iface 215 (ptr p 0) ∧ vf = ptr p 0 ∧ vc = .pointer none) → G w0 (ob FetchR p f :: M) F := by
  rw [ob_eq, InnR]; simp only [G_ex, G_star, G_pure]
theorem Inn_ext {f : ExtS} : G w0 (ob InnR (iv, vf, ve, vc) (.ext f) :: M) F = ∀ p, (iv = .iface 216 (ptr p 0) ∧ ve = ptr p 0 ∧ vc = .pointer none) → G w0 (ob ExtR p f :: M) F := by
  rw [ob_eq, InnR]; simp only [G_ex, G_star, G_pure]
theorem Inn_com {f : ComS} : G w0 (ob InnR (iv, vf, ve, vc) (.com f) :: M) F = ∀ p, (iv = .iface 217 (ptr p 0) ∧ vc = ptr p 0) → G w0 (ob ComR p f :: M) F := by
  rw [ob_eq, InnR]; simp only [G_ex, G_star, G_pure]

/-- shut with a machine at work -/
theorem Att_fetch {p : Nat} {f : FetchS} (b : Nat) (x : AttS) (ve : Value) (pr pv pq : Nat) (hx : x.inn = .fetch f)
    [PickAll [own b (x.cells (.iface 215 (ptr p 0)) (ptr p 0) ve (.pointer none) pr pv pq), ob IntR (pr, pv) x.run, ob ViewR pv x.v, ob ReadsR pq (16, x.rd), ob FetchR p f] L M] (H : G w0 (ob AttR b x :: M) F) : G w0 L F :=
  G.pickAll (As := [own b (x.cells (.iface 215 (ptr p 0)) (ptr p 0) ve (.pointer none) pr pv pq), ob IntR (pr, pv) x.run, ob ViewR pv x.v, ob ReadsR pq (16, x.rd), ob FetchR p f]) (by
    rw [AttR_open] at H
    have h := H (.iface 215 (ptr p 0)) (ptr p 0) ve (.pointer none) pr pv pq
    rw [hx] at h
    have h2 := G.sub (L := ob InnR (.iface 215 (ptr p 0), ptr p 0, ve, .pointer none) (.fetch f) :: own b (x.cells (.iface 215 (ptr p 0)) (ptr p 0) ve (.pointer none) pr pv pq) :: ob IntR (pr, pv) x.run :: ob ViewR pv x.v :: ob ReadsR pq (16, x.rd) :: M) h
    rw [Inn_fetch] at h2
    simp only [List.cons_append, List.nil_append]
    exact (h2 p ⟨rfl, rfl, rfl⟩).sub)
theorem Att_ext {p : Nat} {f : ExtS} (b : Nat) (x : AttS) (vf : Value) (pr pv pq : Nat) (hx : x.inn = .ext f)
    [PickAll [own b (x.cells (.iface 216 (ptr p 0)) vf (ptr p 0) (.pointer none) pr pv pq), ob IntR (pr, pv) x.run, ob ViewR pv x.v, ob ReadsR pq (16, x.rd), ob ExtR p f] L M] (H : G w0 (ob AttR b x :: M) F) : G w0 L F :=
  G.pickAll (As := [own b (x.cells (.iface 216 (ptr p 0)) vf (ptr p 0) (.pointer none) pr pv pq), ob IntR (pr, pv) x.run, ob ViewR pv x.v, ob ReadsR pq (16, x.rd), ob ExtR p f]) (by
    rw [AttR_open] at H
    have h := H (.iface 216 (ptr p 0)) vf (ptr p 0) (.pointer none) pr pv pq
    rw [hx] at h
    have h2 := G.sub (L := ob InnR (.iface 216 (ptr p 0), vf, ptr p 0, .pointer none) (.ext f) :: own b (x.cells (.iface 216 (ptr p 0)) vf (ptr p 0) (.pointer none) pr pv pq) :: ob IntR (pr, pv) x.run :: ob ViewR pv x.v :: ob ReadsR pq (16, x.rd) :: M) h
    rw [Inn_ext] at h2
    simp only [List.cons_append, List.nil_append]
    exact (h2 p ⟨rfl, rfl, rfl⟩).sub)
theorem Att_com {p : Nat} {f : ComS} (b : Nat) (x : AttS) (vf ve : Value) (pr pv pq : Nat) (hx : x.inn = .com f)
    [PickAll [own b (x.cells (.iface 217 (ptr p 0)) vf ve (ptr p 0) pr pv pq), ob IntR (pr, pv) x.run, ob ViewR pv x.v, ob ReadsR pq (16, x.rd), ob ComR p f] L M] (H : G w0 (ob AttR b x :: M) F) : G w0 L F :=
  G.pickAll (As := [own b (x.cells (.iface 217 (ptr p 0)) vf ve (ptr p 0) pr pv pq), ob IntR (pr, pv) x.run, ob ViewR pv x.v, ob ReadsR pq (16, x.rd), ob ComR p f]) (by
    rw [AttR_open] at H
    have h := H (.iface 217 (ptr p 0)) vf ve (ptr p 0) pr pv pq
    rw [hx] at h
    have h2 := G.sub (L := ob InnR (.iface 217 (ptr p 0), vf, ve, ptr p 0) (.com f) :: own b (x.cells (.iface 217 (ptr p 0)) vf ve (ptr p 0) pr pv pq) :: ob IntR (pr, pv) x.run :: ob ViewR pv x.v :: ob ReadsR pq (16, x.rd) :: M) h
    rw [Inn_com] at h2
    simp only [List.cons_append, List.nil_append]
    exact (h2 p ⟨rfl, rfl⟩).sub)

def heldSet (s : TSet) : TSet := ⟨held s.words 32 256, held s.stripes 1 16, held s.wide 1 16, held s.threads 1 4, (heldShape ⟨s.words, s.stripes, s.wide, s.threads, s.start⟩).start, held s.spins 0 4, held s.writes 0 96, held s.fuel 0 400⟩

theorem held0 {n hi : Int} (h : 0 ≤ hi) : (if (if hi < n then hi else n) > 0 then (if hi < n then hi else n) else 0) = held n 0 hi := memHeld_core h
theorem s_attempt_Held {s : TSet} (hK : G w0 L (K (.agg (TSet.cells (heldSet s)).toArray))) : G w0 L (CP Tryz.prog Fn.attempt_Held [.agg (TSet.cells s).toArray] K) := by
  refine C_attempt_Held ?_
  unfold S_attempt_Held
  refine G.box fun q => ?_
  refine G.new fun q2 => ?_
  refine G.drew ?_
  try simp (maxSteps := 2000000) only [↓RG, RP, RB, BEq.rfl, Int.reduceEq, Int.reduceLT, Int.reduceLE, Nat.reduceEqDiff]
  refine s_mem_Held (s := ⟨s.words, s.stripes, s.wide, s.threads, s.start⟩) ?_
  try simp (maxSteps := 2000000) only [↓RG, RP, RB, BEq.rfl, Int.reduceEq, Int.reduceLT, Int.reduceLE, Nat.reduceEqDiff]
  rw [held0 (n := s.spins) (by omega), held0 (n := s.writes) (by omega), held0 (n := s.fuel) (by omega)]
  exact hK.sub

abbrev attNew (me : Int) (s : TSet) (p : List TIns) : AttS :=
  ⟨me, heldSet s, intNew p (heldSet s).fuel, ⟨(heldSet s).words.toNat, [], ⟨(heldSet s).writes, ⟨[], []⟩, []⟩, 0⟩, [], 0, .none, false, 0, 0, 0, -1, 0⟩

theorem s_attempt_New {me : Int} {s : TSet} {p : List TIns} [r : Rd w0 L v tInsE 5 p] (hv : Cells v [v]) (h : OkProg p) (hK : ∀ b, G w0 (ob AttR b (attNew me s p) :: L) (K (ptr b 0))) : G w0 L (CP Tryz.prog Fn.attempt_New [i64 me, .agg (TSet.cells s).toArray, .agg #[v]] K) := by
  have e1 : held (heldSet s).words 32 256 = (heldSet s).words := held_held (by omega)
  have e2 : held (heldSet s).writes 0 96 = (heldSet s).writes := held_held (by omega)
  have e3 : held (heldSet s).fuel 0 400 = (heldSet s).fuel := held_held (by omega)
  refine C_attempt_New ?_
  unfold S_attempt_New
  refine G.box fun q1 => ?_
  refine G.box fun q2 => ?_
  try simp (maxSteps := 2000000) only [↓RG, RP, RB, BEq.rfl, Int.reduceEq, Int.reduceLT, Int.reduceLE, Nat.reduceEqDiff]
  refine C_attempt_fresh ?_
  unfold S_attempt_fresh
  refine G.box fun q3 => ?_
  try simp (maxSteps := 2000000) only [↓RG, RP, RB, BEq.rfl, Int.reduceEq, Int.reduceLT, Int.reduceLE, Nat.reduceEqDiff]
  refine s_attempt_Held ?_
  repeat' (first | (with_reducible refine G.joini0 ?_) | (with_reducible refine G.joini1 ?_) | (with_reducible refine G.drew ?_) | (simp (maxSteps := 2000000) only [↓RG, RP, RB, BEq.rfl, Int.reduceEq, Int.reduceLT, Int.reduceLE, Nat.reduceEqDiff]))
  refine s_view_New fun pv => ?_
  rw [e1, e2]
  repeat' (first | (with_reducible refine G.joini0 ?_) | (with_reducible refine G.joini1 ?_) | (with_reducible refine G.drew ?_) | (simp (maxSteps := 2000000) only [↓RG, RP, RB, BEq.rfl, Int.reduceEq, Int.reduceLT, Int.reduceLE, Nat.reduceEqDiff]))
  refine s_reads_New fun pq => ?_
  rw [show held 16 1 16 = 16 from rfl]
  repeat' (first | (with_reducible refine G.joini0 ?_) | (with_reducible refine G.joini1 ?_) | (with_reducible refine G.drew ?_) | (simp (maxSteps := 2000000) only [↓RG, RP, RB, BEq.rfl, Int.reduceEq, Int.reduceLT, Int.reduceLE, Nat.reduceEqDiff]))
  refine G.box fun b => ?_
  repeat' (first | (with_reducible refine G.joini0 ?_) | (with_reducible refine G.joini1 ?_) | (with_reducible refine G.drew ?_) | (simp (maxSteps := 2000000) only [↓RG, RP, RB, BEq.rfl, Int.reduceEq, Int.reduceLT, Int.reduceLE, Nat.reduceEqDiff]))
  refine s_interp_New (vp := pv) (p := p) hv h fun pr => ?_
  repeat' (first | (with_reducible refine G.joini0 ?_) | (with_reducible refine G.joini1 ?_) | (with_reducible refine G.drew ?_) | (simp (maxSteps := 2000000) only [↓RG, RP, RB, BEq.rfl, Int.reduceEq, Int.reduceLT, Int.reduceLE, Nat.reduceEqDiff]))
  have hK := hK b
  rw [AttR_open] at hK
  have hk := hK .nilIface (.pointer none) (.pointer none) (.pointer none) pr pv pq
  have h2 := G.sub (L := ob InnR (.nilIface, .pointer none, .pointer none, .pointer none) .none :: own b ((attNew me s p).cells .nilIface (.pointer none) (.pointer none) (.pointer none) pr pv pq) :: ob IntR (pr, pv) (attNew me s p).run :: ob ViewR pv (attNew me s p).v :: ob ReadsR pq (16, (attNew me s p).rd) :: L) hk
  rw [Inn_none] at h2
  have h3 := h2 rfl
  exact h3.sub

end
end Go.Proofs.YtoealglbimbbmaaGreatDoor.S

/-
  AN ATTEMPT (package attempt): what is told of it; its next operation; the machine at work.
-/
namespace Go.Proofs.YtoealglbimbbmaaGreatDoor.S
open Go Go.Proofs
set_option linter.unusedVariables false
set_option linter.unusedSimpArgs false

abbrev Inn.fin : Inn → Int
  | .none => 0
  | .fetch f => f.pat.fin
  | .ext f => f.pat.fin
  | .com f => f.pat.fin
abbrev Inn.by_ : Inn → Int
  | .none => 0
  | .fetch f => f.pat.by_
  | .ext f => f.pat.by_
  | .com f => f.pat.by_
abbrev Inn.next : Inn → TOp × Bool
  | .none => (zeroOp, false)
  | .fetch f => fetchNext f
  | .ext f => extNext f
  | .com f => comNext f
abbrev Inn.tell (a : TAns) : Inn → Inn
  | .none => .none
  | .fetch f => .fetch (fetchTell f a)
  | .ext f => .ext (extTell f a)
  | .com f => .com (comTell f a)
abbrev Inn.ok : Inn → Prop
  | .none => False
  | .fetch _ => True
  | .ext f => ExtOk f ∧ f.seen.length ≤ 1000000
  | .com f => ComOk f
/-- the cells of a commit are written, or it writes -/
abbrev Inn.wr : Inn → Bool
  | .com f => (f.writing && decide (f.pat.fin = 0)) || decide (f.pat.fin = 2)
  | _ => false

theorem method_fN (p : Nat) (w : World) : (method (Tryz.prog.types.size + Made.depth) 215 (ptr p 0) "Next").run Tryz.prog w = .ok (Fn.fetch_Fetch_Next, ptr p 0) w := by kernel_rfl
theorem method_fT (p : Nat) (w : World) : (method (Tryz.prog.types.size + Made.depth) 215 (ptr p 0) "Tell").run Tryz.prog w = .ok (Fn.fetch_Fetch_Tell, ptr p 0) w := by kernel_rfl
theorem method_fE (p : Nat) (w : World) : (method (Tryz.prog.types.size + Made.depth) 215 (ptr p 0) "End").run Tryz.prog w = .ok (Fn.fetch_Fetch_End, ptr p 0) w := by kernel_rfl
theorem method_fB (p : Nat) (w : World) : (method (Tryz.prog.types.size + Made.depth) 215 (ptr p 0) "By").run Tryz.prog w = .ok (Fn.fetch_Fetch_By, ptr p 0) w := by kernel_rfl
theorem method_eN (p : Nat) (w : World) : (method (Tryz.prog.types.size + Made.depth) 216 (ptr p 0) "Next").run Tryz.prog w = .ok (Fn.extend_Extend_Next, ptr p 0) w := by kernel_rfl
theorem method_eT (p : Nat) (w : World) : (method (Tryz.prog.types.size + Made.depth) 216 (ptr p 0) "Tell").run Tryz.prog w = .ok (Fn.extend_Extend_Tell, ptr p 0) w := by kernel_rfl
theorem method_eE (p : Nat) (w : World) : (method (Tryz.prog.types.size + Made.depth) 216 (ptr p 0) "End").run Tryz.prog w = .ok (Fn.extend_Extend_End, ptr p 0) w := by kernel_rfl
theorem method_eB (p : Nat) (w : World) : (method (Tryz.prog.types.size + Made.depth) 216 (ptr p 0) "By").run Tryz.prog w = .ok (Fn.extend_Extend_By, ptr p 0) w := by kernel_rfl
theorem method_cN (p : Nat) (w : World) : (method (Tryz.prog.types.size + Made.depth) 217 (ptr p 0) "Next").run Tryz.prog w = .ok (Fn.commit_Commit_Next, ptr p 0) w := by kernel_rfl
theorem method_cT (p : Nat) (w : World) : (method (Tryz.prog.types.size + Made.depth) 217 (ptr p 0) "Tell").run Tryz.prog w = .ok (Fn.commit_Commit_Tell, ptr p 0) w := by kernel_rfl
theorem method_cE (p : Nat) (w : World) : (method (Tryz.prog.types.size + Made.depth) 217 (ptr p 0) "End").run Tryz.prog w = .ok (Fn.commit_Commit_End, ptr p 0) w := by kernel_rfl
theorem method_cB (p : Nat) (w : World) : (method (Tryz.prog.types.size + Made.depth) 217 (ptr p 0) "By").run Tryz.prog w = .ok (Fn.commit_Commit_By, ptr p 0) w := by kernel_rfl

section
variable {w0 : Base} {L M : List Asn} {K : KV} {F : World → Prop} {C : Asn → List Asn} {b pr pv pq : Nat} {x : AttS} {v iv vf ve vc : Value} {i : Inn}

theorem G.inv {t : TypeId} {name : String} {v : Value} {f : FuncId} {args : List Value} (hm : ∀ w, (method (Tryz.prog.types.size + Made.depth) t v name).run Tryz.prog w = .ok (f, v) w) (h : G w0 L (CP Tryz.prog f (v :: args) K)) : G w0 L (invW Tryz.prog (.iface t v) name args K) :=
  fun w H => ⟨f, v, hm w, h w H⟩

theorem inv_End (ho : i.ok) (hK : G w0 (ob InnR (iv, vf, ve, vc) i :: M) (K (i64 i.fin))) : G w0 (ob InnR (iv, vf, ve, vc) i :: M) (invW Tryz.prog iv "End" [] K) := by
  cases i with
  | none => exact ho.elim
  | fetch f => rw [Inn_fetch] at *; intro p h; have hK := hK p h; rw [h.1]; exact G.inv (method_fE p) (s_fetch_Fetch_End (f := f) hK)
  | ext f => rw [Inn_ext] at *; intro p h; have hK := hK p h; rw [h.1]; exact G.inv (method_eE p) (s_extend_Extend_End (x := f) hK)
  | com f => rw [Inn_com] at *; intro p h; have hK := hK p h; rw [h.1]; exact G.inv (method_cE p) (s_commit_Commit_End (x := f) hK)
theorem inv_By (ho : i.ok) (hK : G w0 (ob InnR (iv, vf, ve, vc) i :: M) (K (i64 i.by_))) : G w0 (ob InnR (iv, vf, ve, vc) i :: M) (invW Tryz.prog iv "By" [] K) := by
  cases i with
  | none => exact ho.elim
  | fetch f => rw [Inn_fetch] at *; intro p h; have hK := hK p h; rw [h.1]; exact G.inv (method_fB p) (s_fetch_Fetch_By (f := f) hK)
  | ext f => rw [Inn_ext] at *; intro p h; have hK := hK p h; rw [h.1]; exact G.inv (method_eB p) (s_extend_Extend_By (x := f) hK)
  | com f => rw [Inn_com] at *; intro p h; have hK := hK p h; rw [h.1]; exact G.inv (method_cB p) (s_commit_Commit_By (x := f) hK)
theorem inv_Next (ho : i.ok) (hK : G w0 (ob InnR (iv, vf, ve, vc) i :: M) (K (.tuple #[.agg (TOp.cells i.next.1).toArray, .bool i.next.2]))) : G w0 (ob InnR (iv, vf, ve, vc) i :: M) (invW Tryz.prog iv "Next" [] K) := by
  cases i with
  | none => exact ho.elim
  | fetch f => rw [Inn_fetch] at *; intro p h; have hK := hK p h; rw [h.1]; exact G.inv (method_fN p) (s_fetch_Fetch_Next (f := f) hK)
  | ext f => rw [Inn_ext] at *; intro p h; have hK := hK p h; rw [h.1]; exact G.inv (method_eN p) (s_extend_Extend_Next ho.1 hK)
  | com f => rw [Inn_com] at *; intro p h; have hK := hK p h; rw [h.1]; exact G.inv (method_cN p) (s_commit_Commit_Next ho hK)
theorem inv_Tell {a : TAns} (ho : i.ok) (hK : G w0 (ob InnR (iv, vf, ve, vc) (i.tell a) :: M) (K (.tuple #[]))) : G w0 (ob InnR (iv, vf, ve, vc) i :: M) (invW Tryz.prog iv "Tell" [.agg (TAns.cells a).toArray] K) := by
  cases i with
  | none => exact ho.elim
  | fetch f => rw [Inn_fetch] at *; intro p h; have hK := hK p h; rw [h.1]; exact G.inv (method_fT p) (s_fetch_Fetch_Tell (f := f) hK)
  | ext f => rw [Inn_ext] at *; intro p h; have hK := hK p h; rw [h.1]; exact G.inv (method_eT p) (s_extend_Extend_Tell ho.1 ho.2 hK)
  | com f => rw [Inn_com] at *; intro p h; have hK := hK p h; rw [h.1]; exact G.inv (method_cT p) (s_commit_Commit_Tell ho hK)

theorem s_attempt_End [i : SelOb L AttR b x C] (hK : G w0 L (K (i64 (if x.state = 8 then x.fin else 0)))) : G w0 L (CP Tryz.prog Fn.attempt_Attempt_End [ptr b 0] K) := by
  refine i.ro (fun M hK => ?_) hK
  refine C_attempt_Attempt_End ?_
  unfold S_attempt_Attempt_End
  rw [AttR_open] at *
  intro iv vf ve vc pr pv pq
  have hK := hK iv vf ve vc pr pv pq
  by_cases h : x.state = 8
  · rw [if_pos h] at hK
    try simp (maxSteps := 2000000) only [↓RG, RP, RB, BEq.rfl, Int.reduceEq, Int.reduceLT, Int.reduceLE, Nat.reduceEqDiff, eq_true h]
    exact hK
  · rw [if_neg h] at hK
    try simp (maxSteps := 2000000) only [↓RG, RP, RB, BEq.rfl, Int.reduceEq, Int.reduceLT, Int.reduceLE, Nat.reduceEqDiff, h]
    exact hK
theorem s_attempt_Err [i : SelOb L AttR b x C] (hK : G w0 L (K (i64 (if x.state = 8 then x.err else 0)))) : G w0 L (CP Tryz.prog Fn.attempt_Attempt_Err [ptr b 0] K) := by
  refine i.ro (fun M hK => ?_) hK
  refine C_attempt_Attempt_Err ?_
  unfold S_attempt_Attempt_Err
  rw [AttR_open] at *
  intro iv vf ve vc pr pv pq
  have hK := hK iv vf ve vc pr pv pq
  by_cases h : x.state = 8
  · rw [if_pos h] at hK
    try simp (maxSteps := 2000000) only [↓RG, RP, RB, BEq.rfl, Int.reduceEq, Int.reduceLT, Int.reduceLE, Nat.reduceEqDiff, eq_true h]
    exact hK
  · rw [if_neg h] at hK
    try simp (maxSteps := 2000000) only [↓RG, RP, RB, BEq.rfl, Int.reduceEq, Int.reduceLT, Int.reduceLE, Nat.reduceEqDiff, h]
    exact hK
theorem s_attempt_By [i : SelOb L AttR b x C] (hK : G w0 L (K (i64 (if x.state = 8 then x.by_ else -1)))) : G w0 L (CP Tryz.prog Fn.attempt_Attempt_By [ptr b 0] K) := by
  refine i.ro (fun M hK => ?_) hK
  refine C_attempt_Attempt_By ?_
  unfold S_attempt_Attempt_By
  rw [AttR_open] at *
  intro iv vf ve vc pr pv pq
  have hK := hK iv vf ve vc pr pv pq
  by_cases h : x.state = 8
  · rw [if_pos h] at hK
    try simp (maxSteps := 2000000) only [↓RG, RP, RB, BEq.rfl, Int.reduceEq, Int.reduceLT, Int.reduceLE, Nat.reduceEqDiff, eq_true h]
    exact hK
  · rw [if_neg h] at hK
    try simp (maxSteps := 2000000) only [↓RG, RP, RB, BEq.rfl, Int.reduceEq, Int.reduceLT, Int.reduceLE, Nat.reduceEqDiff, h]
    exact hK
theorem s_attempt_Begin [i : SelOb L AttR b x C] (hK : G w0 L (K (.tuple #[u64 x.beg, .bool x.begun]))) : G w0 L (CP Tryz.prog Fn.attempt_Attempt_Begin [ptr b 0] K) := by
  refine i.ro (fun M hK => ?_) hK
  refine C_attempt_Attempt_Begin ?_
  unfold S_attempt_Attempt_Begin
  rw [AttR_open] at *
  intro iv vf ve vc pr pv pq
  have hK := hK iv vf ve vc pr pv pq
  refine G.drew ?_
  try simp (maxSteps := 2000000) only [↓RG, RP, RB, BEq.rfl, Int.reduceEq, Int.reduceLT, Int.reduceLE, Nat.reduceEqDiff]
  exact hK
theorem s_attempt_Stamp [i : SelOb L AttR b x C] (hK : G w0 L (K (u64 x.stamp))) : G w0 L (CP Tryz.prog Fn.attempt_Attempt_Stamp [ptr b 0] K) := by
  refine i.ro (fun M hK => ?_) hK
  refine C_attempt_Attempt_Stamp ?_
  unfold S_attempt_Attempt_Stamp
  rw [AttR_open] at *
  intro iv vf ve vc pr pv pq
  have hK := hK iv vf ve vc pr pv pq
  try simp (maxSteps := 2000000) only [↓RG, RP, RB, BEq.rfl, Int.reduceEq, Int.reduceLT, Int.reduceLE, Nat.reduceEqDiff]
  exact hK
theorem s_attempt_Blocking [i : SelOb L AttR b x C] (hK : G w0 L (K (.bool false))) : G w0 L (CP Tryz.prog Fn.attempt_Attempt_Blocking [ptr b 0] K) := by
  refine i.ro (fun M hK => ?_) hK
  refine C_attempt_Attempt_Blocking ?_
  unfold S_attempt_Attempt_Blocking
  rw [AttR_open] at *
  intro iv vf ve vc pr pv pq
  have hK := hK iv vf ve vc pr pv pq
  try simp (maxSteps := 2000000) only [fuse_and, fuse_or, fuse_step, fuse_pair, fuse_in, andP_true]
  by_cases h : x.state = 8
  · try simp (maxSteps := 2000000) only [↓RG, RP, RB, BEq.rfl, Int.reduceEq, Int.reduceLT, Int.reduceLE, Nat.reduceEqDiff, eq_true h]
    exact hK
  · try simp (maxSteps := 2000000) only [↓RG, RP, RB, BEq.rfl, Int.reduceEq, Int.reduceLT, Int.reduceLE, Nat.reduceEqDiff, h]
    exact hK
theorem s_attempt_Seen (hl : x.rd.length ≤ 1000000) [i : SelOb L AttR b x C] (hK : ∀ u, Cells u [u] → G w0 (sl tSeenE u x.rd :: L) (K u)) : G w0 L (CP Tryz.prog Fn.attempt_Attempt_Seen [ptr b 0] K) := by
  refine i.roN (fun M hK => ?_) hK
  refine C_attempt_Attempt_Seen ?_
  unfold S_attempt_Attempt_Seen
  rw [AttR_open]
  intro iv vf ve vc pr pv pq
  try simp (maxSteps := 2000000) only [↓RG, RP, RB, BEq.rfl, Int.reduceEq, Int.reduceLT, Int.reduceLE, Nat.reduceEqDiff]
  refine s_reads_Reads_All (xs := x.rd) hl fun u hu => ?_
  try simp (maxSteps := 2000000) only [↓RG, RP, RB, BEq.rfl, Int.reduceEq, Int.reduceLT, Int.reduceLE, Nat.reduceEqDiff]
  refine AttR_close b x iv vf ve vc pr pv pq ?_
  exact (hK u hu).sub
theorem s_attempt_Reads (hl : x.v.k.length ≤ 1000000) [i : SelOb L AttR b x C] (hK : ∀ u, Cells u [u] → G w0 (sl tCellE u x.v.k :: L) (K u)) : G w0 L (CP Tryz.prog Fn.attempt_Attempt_Reads [ptr b 0] K) := by
  refine i.roN (fun M hK => ?_) hK
  refine C_attempt_Attempt_Reads ?_
  unfold S_attempt_Attempt_Reads
  rw [AttR_open]
  intro iv vf ve vc pr pv pq
  try simp (maxSteps := 2000000) only [↓RG, RP, RB, BEq.rfl, Int.reduceEq, Int.reduceLT, Int.reduceLE, Nat.reduceEqDiff]
  refine s_view_Known (s := x.v) hl fun u hu => ?_
  try simp (maxSteps := 2000000) only [↓RG, RP, RB, BEq.rfl, Int.reduceEq, Int.reduceLT, Int.reduceLE, Nat.reduceEqDiff]
  refine AttR_close b x iv vf ve vc pr pv pq ?_
  exact (hK u hu).sub

abbrev AttS.wr (x : AttS) : Bool := !decide (x.state = 8) && x.inn.wr
abbrev AttS.done (x : AttS) : Bool := decide ((if x.state = 8 then x.fin else 0) = 2) || x.wr

theorem s_attempt_Writing [i : SelOb L AttR b x C] (hK : G w0 L (K (.bool x.wr))) : G w0 L (CP Tryz.prog Fn.attempt_Attempt_Writing [ptr b 0] K) := by
  refine i.ro (fun M hK => ?_) hK
  refine C_attempt_Attempt_Writing ?_
  unfold S_attempt_Attempt_Writing
  rw [AttR_open] at *
  intro iv vf ve vc pr pv pq
  have hK := hK iv vf ve vc pr pv pq
  try simp (maxSteps := 2000000) only [fuse_and, fuse_or, fuse_step, fuse_pair, fuse_in, andP_true]
  by_cases h : x.state = 8
  · have hw : x.wr = false := by unfold AttS.wr; simp [h]
    rw [hw] at hK
    try simp (maxSteps := 2000000) only [↓RG, RP, RB, BEq.rfl, Int.reduceEq, Int.reduceLT, Int.reduceLE, Nat.reduceEqDiff, eq_true h]
    exact hK
  · have hw : x.wr = x.inn.wr := by unfold AttS.wr; simp [h]
    rw [hw] at hK
    cases hi : x.inn with
    | none =>
      rw [hi] at hK
      have hK : G w0 (ob InnR (iv, vf, ve, vc) .none :: own b (x.cells iv vf ve vc pr pv pq) :: ob IntR (pr, pv) x.run :: ob ViewR pv x.v :: ob ReadsR pq (16, x.rd) :: M) (K (.bool false)) := hK.sub
      rw [Inn_none] at hK
      refine G.take1 InnR (iv, vf, ve, vc) ?_
      rw [Inn_none]
      intro e
      have hK := hK e
      subst e
      try simp (maxSteps := 2000000) only [↓RG, RP, RB, BEq.rfl, Int.reduceEq, Int.reduceLT, Int.reduceLE, Nat.reduceEqDiff, h]
      exact hK
    | fetch f =>
      rw [hi] at hK
      have hK : G w0 (ob InnR (iv, vf, ve, vc) (.fetch f) :: own b (x.cells iv vf ve vc pr pv pq) :: ob IntR (pr, pv) x.run :: ob ViewR pv x.v :: ob ReadsR pq (16, x.rd) :: M) (K (.bool false)) := hK.sub
      rw [Inn_fetch] at hK
      refine G.take1 InnR (iv, vf, ve, vc) ?_
      rw [Inn_fetch]
      intro p e
      have hK := hK p e
      obtain ⟨e1, e2, e3⟩ := e
      subst e3
      try simp (maxSteps := 2000000) only [↓RG, RP, RB, BEq.rfl, Int.reduceEq, Int.reduceLT, Int.reduceLE, Nat.reduceEqDiff, h]
      exact hK
    | ext f =>
      rw [hi] at hK
      have hK : G w0 (ob InnR (iv, vf, ve, vc) (.ext f) :: own b (x.cells iv vf ve vc pr pv pq) :: ob IntR (pr, pv) x.run :: ob ViewR pv x.v :: ob ReadsR pq (16, x.rd) :: M) (K (.bool false)) := hK.sub
      rw [Inn_ext] at hK
      refine G.take1 InnR (iv, vf, ve, vc) ?_
      rw [Inn_ext]
      intro p e
      have hK := hK p e
      obtain ⟨e1, e2, e3⟩ := e
      subst e3
      try simp (maxSteps := 2000000) only [↓RG, RP, RB, BEq.rfl, Int.reduceEq, Int.reduceLT, Int.reduceLE, Nat.reduceEqDiff, h]
      exact hK
    | com f =>
      rw [hi] at hK
      have hK : G w0 (ob InnR (iv, vf, ve, vc) (.com f) :: own b (x.cells iv vf ve vc pr pv pq) :: ob IntR (pr, pv) x.run :: ob ViewR pv x.v :: ob ReadsR pq (16, x.rd) :: M) (K (.bool ((f.writing && decide (f.pat.fin = 0)) || decide (f.pat.fin = 2)))) := hK.sub
      rw [Inn_com] at hK
      refine G.take1 InnR (iv, vf, ve, vc) ?_
      rw [Inn_com]
      intro p e
      have hK := hK p e
      obtain ⟨e1, e3⟩ := e
      subst e3
      try simp (maxSteps := 2000000) only [↓RG, RP, RB, BEq.rfl, Int.reduceEq, Int.reduceLT, Int.reduceLE, Nat.reduceEqDiff, h]
      refine s_commit_Commit_Writing (x := f) ?_
      try simp (maxSteps := 2000000) only [↓RG, RP, RB, BEq.rfl, Int.reduceEq, Int.reduceLT, Int.reduceLE, Nat.reduceEqDiff]
      refine G.any (decide (f.pat.fin = 2)) (fun _ K hK => ?_) ?_
      · try simp (maxSteps := 2000000) only [↓RG, RP, RB, BEq.rfl, Int.reduceEq, Int.reduceLT, Int.reduceLE, Nat.reduceEqDiff]
        refine s_commit_Commit_End (x := f) ?_
        try simp (maxSteps := 2000000) only [↓RG, RP, RB, BEq.rfl, Int.reduceEq, Int.reduceLT, Int.reduceLE, Nat.reduceEqDiff]
        exact hK
      · exact hK

theorem s_attempt_committed [i : SelOb L AttR b x C] (hK : G w0 L (K (.bool x.done))) : G w0 L (CP Tryz.prog Fn.attempt_Attempt_committed [ptr b 0] K) := by
  refine i.ro (fun M hK => ?_) hK
  refine C_attempt_Attempt_committed ?_
  unfold S_attempt_Attempt_committed
  refine s_attempt_End (x := x) ?_
  try simp (maxSteps := 2000000) only [fuse_and, fuse_or, fuse_step, fuse_pair, fuse_in, andP_true]
  try simp (maxSteps := 2000000) only [↓RG, RP, RB, BEq.rfl, Int.reduceEq, Int.reduceLT, Int.reduceLE, Nat.reduceEqDiff]
  refine G.any x.wr (fun _ K hK => ?_) ?_
  · try simp (maxSteps := 2000000) only [↓RG, RP, RB, BEq.rfl, Int.reduceEq, Int.reduceLT, Int.reduceLE, Nat.reduceEqDiff]
    refine s_attempt_Writing (x := x) ?_
    exact hK
  · exact hK
theorem s_attempt_Cells [i : SelOb L AttR b x C] (hK : ∀ u : SlV, G w0 (sl tCellE u.v (if x.done then x.v.l.cells else []) :: L) (K u.v)) : G w0 L (CP Tryz.prog Fn.attempt_Attempt_Cells [ptr b 0] K) := by
  refine i.roN (P := fun _ => True) (N := fun u : SlV => sl tCellE u.v (if x.done then x.v.l.cells else [])) (F' := fun u => K u.v) (fun M hK => ?_) (fun u _ => hK u)
  have hK := fun u => hK u trivial
  refine C_attempt_Attempt_Cells ?_
  unfold S_attempt_Attempt_Cells
  refine s_attempt_committed (x := x) ?_
  cases hd : x.done
  · simp only [hd, Bool.false_eq_true, if_false] at hK
    try simp (maxSteps := 2000000) only [↓RG, RP, RB, BEq.rfl, Int.reduceEq, Int.reduceLT, Int.reduceLE, Nat.reduceEqDiff]
    refine G.nilsl tCellE ?_
    exact hK ⟨none, 0, 0⟩
  · simp only [hd, if_true] at hK
    try simp (maxSteps := 2000000) only [↓RG, RP, RB, BEq.rfl, Int.reduceEq, Int.reduceLT, Int.reduceLE, Nat.reduceEqDiff]
    rw [AttR_open]
    intro iv vf ve vc pr pv pq
    try simp (maxSteps := 2000000) only [↓RG, RP, RB, BEq.rfl, Int.reduceEq, Int.reduceLT, Int.reduceLE, Nat.reduceEqDiff]
    refine s_view_Cells (s := x.v) fun u hu => ?_
    refine AttR_close b x iv vf ve vc pr pv pq ?_
    refine G.isSl (v := u) fun s hs => ?_
    subst hs
    exact (hK s).sub
theorem s_attempt_Frees (hf : x.v.l.frees = []) [i : SelOb L AttR b x C] (hK : ∀ u : SlV, G w0 (sl intE u.v [] :: L) (K u.v)) : G w0 L (CP Tryz.prog Fn.attempt_Attempt_Frees [ptr b 0] K) := by
  refine i.roN (P := fun _ => True) (N := fun u : SlV => sl intE u.v []) (F' := fun u => K u.v) (fun M hK => ?_) (fun u _ => hK u)
  have hK := fun u => hK u trivial
  refine C_attempt_Attempt_Frees ?_
  unfold S_attempt_Attempt_Frees
  refine s_attempt_committed (x := x) ?_
  cases hd : x.done
  · try simp (maxSteps := 2000000) only [↓RG, RP, RB, BEq.rfl, Int.reduceEq, Int.reduceLT, Int.reduceLE, Nat.reduceEqDiff]
    refine G.nilsl intE ?_
    exact hK ⟨none, 0, 0⟩
  · try simp (maxSteps := 2000000) only [↓RG, RP, RB, BEq.rfl, Int.reduceEq, Int.reduceLT, Int.reduceLE, Nat.reduceEqDiff]
    rw [AttR_open]
    intro iv vf ve vc pr pv pq
    try simp (maxSteps := 2000000) only [↓RG, RP, RB, BEq.rfl, Int.reduceEq, Int.reduceLT, Int.reduceLE, Nat.reduceEqDiff]
    refine s_view_Frees (s := x.v) (by rw [hf]; exact Nat.zero_le _) fun u hu => ?_
    rw [hf]
    refine AttR_close b x iv vf ve vc pr pv pq ?_
    refine G.isSl (v := u) fun s hs => ?_
    subst hs
    exact (hK s).sub
/-- one digit's worth is told, if it is done -/
theorem s_attempt_Slate (hs : x.done = true → x.run.items.length = 1 ∧ ∀ n ∈ x.run.items, 0 ≤ n ∧ n < 10) [i : SelOb L AttR b x C] (hK : G w0 L (K (.string (if x.done then textV x.run.items else ⟨#[]⟩)))) : G w0 L (CP Tryz.prog Fn.attempt_Attempt_Slate [ptr b 0] K) := by
  refine i.ro (fun M hK => ?_) hK
  refine C_attempt_Attempt_Slate ?_
  unfold S_attempt_Attempt_Slate
  refine s_attempt_committed (x := x) ?_
  try simp (maxSteps := 2000000) only [fuse_and, fuse_or, fuse_step, fuse_pair, fuse_in, andP_true]
  cases hd : x.done
  · rw [hd] at hK
    try simp (maxSteps := 2000000) only [↓RG, RP, RB, BEq.rfl, Int.reduceEq, Int.reduceLT, Int.reduceLE, Nat.reduceEqDiff]
    exact hK
  · rw [hd, if_pos rfl] at hK
    obtain ⟨h1, h2⟩ := hs hd
    try simp (maxSteps := 2000000) only [↓RG, RP, RB, BEq.rfl, Int.reduceEq, Int.reduceLT, Int.reduceLE, Nat.reduceEqDiff]
    rw [AttR_open] at *
    intro iv vf ve vc pr pv pq
    have hK := hK iv vf ve vc pr pv pq
    try simp (maxSteps := 2000000) only [↓RG, RP, RB, BEq.rfl, Int.reduceEq, Int.reduceLT, Int.reduceLE, Nat.reduceEqDiff]
    refine s_interp_Slate (vp := pv) (x := x.run) (by omega) fun c => ?_
    try simp (maxSteps := 2000000) only [↓RG, RP, RB, BEq.rfl, Int.reduceEq, Int.reduceLT, Int.reduceLE, Nat.reduceEqDiff]
    refine s_slate_Slate_Text (xs := x.run.items) h1 h2 ?_
    exact hK.sub

end
end Go.Proofs.YtoealglbimbbmaaGreatDoor.S
