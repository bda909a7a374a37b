import Derived.Test.YtoealglbimbbmaaGreatDoorGInt
import Derived.Test.YtoealglbimbbmaaGreatDoorCommitW
import Derived.Test.YtoealglbimbbmaaGreatDoorReads
import Derived.Test.YtoealglbimbbmaaGreatDoorMem
namespace Go.Proofs.YtoealglbimbbmaaGreatDoor.S
open Go Go.Proofs
set_option linter.unusedVariables false
set_option linter.unusedSimpArgs false
inductive Inn where
 | none
 | fetch (f : FetchS)
 | ext (x : ExtS)
 | com (x : ComS)
structure AttS where
 me : Int
 s : TSet
 run : IntG
 v : VwS
 rd : List TSeen
 state : Int
 inn : Inn
 begun : Bool
 beg : Int
 stamp : Int
 fin : Int
 by_ : Int
 err : Int
 blocking : Bool
def InnR (k : Value × Value × Value × Value) : Inn → Asn
 | .none => pureA (k.2.2.2 = .pointer none)
 | .fetch f => exA fun p => star (pureA (k.1 = .iface 215 (ptr p 0) ∧ k.2.1 = ptr p 0 ∧ k.2.2.2 = .pointer none)) (ob FetchR p f)
 | .ext x => exA fun p => star (pureA (k.1 = .iface 216 (ptr p 0) ∧ k.2.2.1 = ptr p 0 ∧ k.2.2.2 = .pointer none)) (ob ExtR p x)
 | .com x => exA fun p => star (pureA (k.1 = .iface 217 (ptr p 0) ∧ k.2.2.2 = ptr p 0)) (ob ComR p x)
abbrev AttS.cells (x : AttS) (iv vf ve vc : Value) (pr pv pq : Nat) : List Value := [i64 x.me, i64 x.s.words, i64 x.s.stripes, i64 x.s.wide, i64 x.s.threads, u64 x.s.start, i64 x.s.spins, i64 x.s.writes, i64 x.s.fuel, ptr pr 0, .slice none 0 0, i64 0, ptr pv 0, ptr pq 0, i64 x.state, iv, vf, ve, vc, .bool x.begun, u64 x.beg, u64 x.stamp, i64 x.fin, i64 x.by_, i64 x.err, .bool x.blocking]
def AttR (b : Nat) (x : AttS) : Asn := exA fun iv => exA fun vf => exA fun ve => exA fun vc => exA fun pr => exA fun pv => exA fun pq => star (star (star (star (own b (x.cells iv vf ve vc pr pv pq)) (ob IntGR (pr, pv) x.run)) (ob ViewR pv x.v)) (ob ReadsR pq (16, x.rd))) (ob InnR (iv, vf, ve, vc) x.inn)
section
variable {w0 : Base} {L M : List Asn} {K : KV} {F : World → Prop} {C : Asn → List Asn} {b pr pv pq : Nat} {x : AttS} {v iv vf ve vc : Value}
theorem AttR_open : G w0 (ob AttR b x :: M) F = ∀ iv vf ve vc pr pv pq, G w0 (own b (x.cells iv vf ve vc pr pv pq) :: ob IntGR (pr, pv) x.run :: ob ViewR pv x.v :: ob ReadsR pq (16, x.rd) :: ob InnR (iv, vf, ve, vc) x.inn :: M) F := by
 rw [ob_eq, AttR]
 simp only [G_ex, G_star]
theorem AttR_close (b : Nat) (x : AttS) (iv vf ve vc : Value) (pr pv pq : Nat) [PickAll [own b (x.cells iv vf ve vc pr pv pq), ob IntGR (pr, pv) x.run, ob ViewR pv x.v, ob ReadsR pq (16, x.rd), ob InnR (iv, vf, ve, vc) x.inn] L M] (H : G w0 (ob AttR b x :: M) F) : G w0 L F :=
 G.pickAll (As := [own b (x.cells iv vf ve vc pr pv pq), ob IntGR (pr, pv) x.run, ob ViewR pv x.v, ob ReadsR pq (16, x.rd), ob InnR (iv, vf, ve, vc) x.inn]) (by rw [AttR_open] at H; exact H iv vf ve vc pr pv pq)
theorem Inn_none : G w0 (ob InnR (iv, vf, ve, vc) .none :: M) F = (vc = .pointer none → G w0 M F) := by
 rw [ob_eq, InnR]; simp only [G_pure]
theorem Inn_fetch {f : FetchS} : G w0 (ob InnR (iv, vf, ve, vc) (.fetch f) :: M) F = ∀ p, (iv = .iface 215 (ptr p 0) ∧ vf = ptr p 0 ∧ vc = .pointer none) → G w0 (ob FetchR p f :: M) F := by
 rw [ob_eq, InnR]; simp only [G_ex, G_star, G_pure]
theorem Inn_ext {f : ExtS} : G w0 (ob InnR (iv, vf, ve, vc) (.ext f) :: M) F = ∀ p, (iv = .iface 216 (ptr p 0) ∧ ve = ptr p 0 ∧ vc = .pointer none) → G w0 (ob ExtR p f :: M) F := by
 rw [ob_eq, InnR]; simp only [G_ex, G_star, G_pure]
theorem Inn_com {f : ComS} : G w0 (ob InnR (iv, vf, ve, vc) (.com f) :: M) F = ∀ p, (iv = .iface 217 (ptr p 0) ∧ vc = ptr p 0) → G w0 (ob ComR p f :: M) F := by
 rw [ob_eq, InnR]; simp only [G_ex, G_star, G_pure]
theorem Att_fetch {p : Nat} {f : FetchS} (b : Nat) (x : AttS) (ve : Value) (pr pv pq : Nat) (hx : x.inn = .fetch f)
  [PickAll [own b (x.cells (.iface 215 (ptr p 0)) (ptr p 0) ve (.pointer none) pr pv pq), ob IntGR (pr, pv) x.run, ob ViewR pv x.v, ob ReadsR pq (16, x.rd), ob FetchR p f] L M] (H : G w0 (ob AttR b x :: M) F) : G w0 L F :=
 G.pickAll (As := [own b (x.cells (.iface 215 (ptr p 0)) (ptr p 0) ve (.pointer none) pr pv pq), ob IntGR (pr, pv) x.run, ob ViewR pv x.v, ob ReadsR pq (16, x.rd), ob FetchR p f]) (by
  rw [AttR_open] at H
  have h := H (.iface 215 (ptr p 0)) (ptr p 0) ve (.pointer none) pr pv pq
  rw [hx] at h
  have h2 := G.sub (L := ob InnR (.iface 215 (ptr p 0), ptr p 0, ve, .pointer none) (.fetch f) :: own b (x.cells (.iface 215 (ptr p 0)) (ptr p 0) ve (.pointer none) pr pv pq) :: ob IntGR (pr, pv) x.run :: ob ViewR pv x.v :: ob ReadsR pq (16, x.rd) :: M) h
  rw [Inn_fetch] at h2
  simp only [List.cons_append, List.nil_append]
  exact (h2 p ⟨rfl, rfl, rfl⟩).sub)
theorem Att_ext {p : Nat} {f : ExtS} (b : Nat) (x : AttS) (vf : Value) (pr pv pq : Nat) (hx : x.inn = .ext f)
  [PickAll [own b (x.cells (.iface 216 (ptr p 0)) vf (ptr p 0) (.pointer none) pr pv pq), ob IntGR (pr, pv) x.run, ob ViewR pv x.v, ob ReadsR pq (16, x.rd), ob ExtR p f] L M] (H : G w0 (ob AttR b x :: M) F) : G w0 L F :=
 G.pickAll (As := [own b (x.cells (.iface 216 (ptr p 0)) vf (ptr p 0) (.pointer none) pr pv pq), ob IntGR (pr, pv) x.run, ob ViewR pv x.v, ob ReadsR pq (16, x.rd), ob ExtR p f]) (by
  rw [AttR_open] at H
  have h := H (.iface 216 (ptr p 0)) vf (ptr p 0) (.pointer none) pr pv pq
  rw [hx] at h
  have h2 := G.sub (L := ob InnR (.iface 216 (ptr p 0), vf, ptr p 0, .pointer none) (.ext f) :: own b (x.cells (.iface 216 (ptr p 0)) vf (ptr p 0) (.pointer none) pr pv pq) :: ob IntGR (pr, pv) x.run :: ob ViewR pv x.v :: ob ReadsR pq (16, x.rd) :: M) h
  rw [Inn_ext] at h2
  simp only [List.cons_append, List.nil_append]
  exact (h2 p ⟨rfl, rfl, rfl⟩).sub)
theorem Att_com {p : Nat} {f : ComS} (b : Nat) (x : AttS) (vf ve : Value) (pr pv pq : Nat) (hx : x.inn = .com f)
  [PickAll [own b (x.cells (.iface 217 (ptr p 0)) vf ve (ptr p 0) pr pv pq), ob IntGR (pr, pv) x.run, ob ViewR pv x.v, ob ReadsR pq (16, x.rd), ob ComR p f] L M] (H : G w0 (ob AttR b x :: M) F) : G w0 L F :=
 G.pickAll (As := [own b (x.cells (.iface 217 (ptr p 0)) vf ve (ptr p 0) pr pv pq), ob IntGR (pr, pv) x.run, ob ViewR pv x.v, ob ReadsR pq (16, x.rd), ob ComR p f]) (by
  rw [AttR_open] at H
  have h := H (.iface 217 (ptr p 0)) vf ve (ptr p 0) pr pv pq
  rw [hx] at h
  have h2 := G.sub (L := ob InnR (.iface 217 (ptr p 0), vf, ve, ptr p 0) (.com f) :: own b (x.cells (.iface 217 (ptr p 0)) vf ve (ptr p 0) pr pv pq) :: ob IntGR (pr, pv) x.run :: ob ViewR pv x.v :: ob ReadsR pq (16, x.rd) :: M) h
  rw [Inn_com] at h2
  simp only [List.cons_append, List.nil_append]
  exact (h2 p ⟨rfl, rfl⟩).sub)
def heldSet (s : TSet) : TSet := ⟨held s.words 32 256, held s.stripes 1 16, held s.wide 1 16, held s.threads 1 4, (heldShape ⟨s.words, s.stripes, s.wide, s.threads, s.start⟩).start, held s.spins 0 4, held s.writes 0 96, held s.fuel 0 400⟩
theorem held0 {n hi : Int} (h : 0 ≤ hi) : (if (if hi < n then hi else n) > 0 then (if hi < n then hi else n) else 0) = held n 0 hi := memHeld_core h
theorem s_attempt_Held {s : TSet} (hK : G w0 L (K (.agg (TSet.cells (heldSet s)).toArray))) : G w0 L (CP Tryz.prog Fn.attempt_Held [.agg (TSet.cells s).toArray] K) := by
 refine C_attempt_Held ?_
 unfold S_attempt_Held
 refine G.box fun q => ?_
 refine G.new fun q2 => ?_
 refine G.drew ?_
 refine gr ?_
 refine s_mem_Held (s := ⟨s.words, s.stripes, s.wide, s.threads, s.start⟩) ?_
 refine gr ?_
 rw [held0 (n := s.spins) (by omega), held0 (n := s.writes) (by omega), held0 (n := s.fuel) (by omega)]
 exact hK.sub
abbrev attNew (me : Int) (s : TSet) (p : List TIns) : AttS :=
 ⟨me, heldSet s, intGNew p (heldSet s).fuel, ⟨(heldSet s).words.toNat, [], ⟨(heldSet s).writes, ⟨[], []⟩, []⟩, 0⟩, [], 0, .none, false, 0, 0, 0, -1, 0, false⟩
theorem s_attempt_New {me : Int} {s : TSet} {p : List TIns} [r : Rd w0 L v tInsE 5 p] (hv : Cells v [v]) (h : p.length ≤ 1000000) (hK : ∀ b, G w0 (ob AttR b (attNew me s p) :: L) (K (ptr b 0))) : G w0 L (CP Tryz.prog Fn.attempt_New [i64 me, .agg (TSet.cells s).toArray, .agg #[v]] K) := by
 have e1 : held (heldSet s).words 32 256 = (heldSet s).words := held_held (by omega)
 have e2 : held (heldSet s).writes 0 96 = (heldSet s).writes := held_held (by omega)
 have e3 : held (heldSet s).fuel 0 400 = (heldSet s).fuel := held_held (by omega)
 refine C_attempt_New ?_
 unfold S_attempt_New
 refine G.box fun q1 => ?_
 refine G.box fun q2 => ?_
 refine gr ?_
 refine C_attempt_fresh ?_
 unfold S_attempt_fresh
 refine G.box fun q3 => ?_
 refine gr ?_
 refine s_attempt_Held ?_
 repeat' (first | (with_reducible refine G.joini0 ?_) | (with_reducible refine G.joini1 ?_) | (with_reducible refine G.drew ?_) | (simp (maxSteps := 2000000) only [↓RG, RP, RB, BEq.rfl, Int.reduceEq, Int.reduceLT, Int.reduceLE, Nat.reduceEqDiff]))
 refine s_view_New fun pv => ?_
 rw [e1, e2]
 refine gg ?_
 refine s_reads_New fun pq => ?_
 rw [show held 16 1 16 = 16 from rfl]
 refine gg ?_
 refine G.box fun b => ?_
 repeat' (first | (with_reducible refine G.joini0 ?_) | (with_reducible refine G.joini1 ?_) | (with_reducible refine G.drew ?_) | (simp (maxSteps := 2000000) only [↓RG, RP, RB, BEq.rfl, Int.reduceEq, Int.reduceLT, Int.reduceLE, Nat.reduceEqDiff]))
 refine g_interp_New (vp := pv) (p := p) hv h fun pr => ?_
 refine gg ?_
 have hK := hK b
 rw [AttR_open] at hK
 have hk := hK .nilIface (.pointer none) (.pointer none) (.pointer none) pr pv pq
 have h2 := G.sub (L := ob InnR (.nilIface, .pointer none, .pointer none, .pointer none) .none :: own b ((attNew me s p).cells .nilIface (.pointer none) (.pointer none) (.pointer none) pr pv pq) :: ob IntGR (pr, pv) (attNew me s p).run :: ob ViewR pv (attNew me s p).v :: ob ReadsR pq (16, (attNew me s p).rd) :: L) hk
 rw [Inn_none] at h2
 have h3 := h2 rfl
 exact h3.sub
end
end Go.Proofs.YtoealglbimbbmaaGreatDoor.S
namespace Go.Proofs.YtoealglbimbbmaaGreatDoor.S
open Go Go.Proofs
set_option linter.unusedVariables false
set_option linter.unusedSimpArgs false
abbrev Inn.fin : Inn → Int
 | .none => 0
 | .fetch f => f.pat.fin
 | .ext f => f.pat.fin
 | .com f => f.pat.fin
abbrev Inn.by_ : Inn → Int
 | .none => 0
 | .fetch f => f.pat.by_
 | .ext f => f.pat.by_
 | .com f => f.pat.by_
abbrev Inn.next : Inn → TOp × Bool
 | .none => (zeroOp, false)
 | .fetch f => fetchNext f
 | .ext f => extNext f
 | .com f => comNext f
abbrev Inn.tell (a : TAns) : Inn → Inn
 | .none => .none
 | .fetch f => .fetch (fetchTell f a)
 | .ext f => .ext (extTell f a)
 | .com f => .com (comTell f a)
abbrev Inn.ok : Inn → Prop
 | .none => False
 | .fetch _ => True
 | .ext f => ExtOk f ∧ f.seen.length ≤ 1000000
 | .com f => ComOk f
abbrev Inn.wr : Inn → Bool
 | .com f => (f.writing && decide (f.pat.fin = 0)) || decide (f.pat.fin = 2)
 | _ => false
theorem method_fN (p : Nat) (w : World) : (method (Tryz.prog.types.size + Made.depth) 215 (ptr p 0) "Next").run Tryz.prog w = .ok (Fn.fetch_Fetch_Next, ptr p 0) w := by kernel_rfl
theorem method_fT (p : Nat) (w : World) : (method (Tryz.prog.types.size + Made.depth) 215 (ptr p 0) "Tell").run Tryz.prog w = .ok (Fn.fetch_Fetch_Tell, ptr p 0) w := by kernel_rfl
theorem method_fE (p : Nat) (w : World) : (method (Tryz.prog.types.size + Made.depth) 215 (ptr p 0) "End").run Tryz.prog w = .ok (Fn.fetch_Fetch_End, ptr p 0) w := by kernel_rfl
theorem method_fB (p : Nat) (w : World) : (method (Tryz.prog.types.size + Made.depth) 215 (ptr p 0) "By").run Tryz.prog w = .ok (Fn.fetch_Fetch_By, ptr p 0) w := by kernel_rfl
theorem method_eN (p : Nat) (w : World) : (method (Tryz.prog.types.size + Made.depth) 216 (ptr p 0) "Next").run Tryz.prog w = .ok (Fn.extend_Extend_Next, ptr p 0) w := by kernel_rfl
theorem method_eT (p : Nat) (w : World) : (method (Tryz.prog.types.size + Made.depth) 216 (ptr p 0) "Tell").run Tryz.prog w = .ok (Fn.extend_Extend_Tell, ptr p 0) w := by kernel_rfl
theorem method_eE (p : Nat) (w : World) : (method (Tryz.prog.types.size + Made.depth) 216 (ptr p 0) "End").run Tryz.prog w = .ok (Fn.extend_Extend_End, ptr p 0) w := by kernel_rfl
theorem method_eB (p : Nat) (w : World) : (method (Tryz.prog.types.size + Made.depth) 216 (ptr p 0) "By").run Tryz.prog w = .ok (Fn.extend_Extend_By, ptr p 0) w := by kernel_rfl
theorem method_cN (p : Nat) (w : World) : (method (Tryz.prog.types.size + Made.depth) 217 (ptr p 0) "Next").run Tryz.prog w = .ok (Fn.commit_Commit_Next, ptr p 0) w := by kernel_rfl
theorem method_cT (p : Nat) (w : World) : (method (Tryz.prog.types.size + Made.depth) 217 (ptr p 0) "Tell").run Tryz.prog w = .ok (Fn.commit_Commit_Tell, ptr p 0) w := by kernel_rfl
theorem method_cE (p : Nat) (w : World) : (method (Tryz.prog.types.size + Made.depth) 217 (ptr p 0) "End").run Tryz.prog w = .ok (Fn.commit_Commit_End, ptr p 0) w := by kernel_rfl
theorem method_cB (p : Nat) (w : World) : (method (Tryz.prog.types.size + Made.depth) 217 (ptr p 0) "By").run Tryz.prog w = .ok (Fn.commit_Commit_By, ptr p 0) w := by kernel_rfl
section
variable {w0 : Base} {L M : List Asn} {K : KV} {F : World → Prop} {C : Asn → List Asn} {b pr pv pq : Nat} {x : AttS} {v iv vf ve vc : Value} {i : Inn}
theorem G.inv {t : TypeId} {name : String} {v : Value} {f : FuncId} {args : List Value} (hm : ∀ w, (method (Tryz.prog.types.size + Made.depth) t v name).run Tryz.prog w = .ok (f, v) w) (h : G w0 L (CP Tryz.prog f (v :: args) K)) : G w0 L (invW Tryz.prog (.iface t v) name args K) :=
 fun w H => ⟨f, v, hm w, h w H⟩
theorem inv_End (ho : i.ok) (hK : G w0 (ob InnR (iv, vf, ve, vc) i :: M) (K (i64 i.fin))) : G w0 (ob InnR (iv, vf, ve, vc) i :: M) (invW Tryz.prog iv "End" [] K) := by
 cases i with
 | none => exact ho.elim
 | fetch f => rw [Inn_fetch] at *; intro p h; have hK := hK p h; rw [h.1]; exact G.inv (method_fE p) (s_fetch_Fetch_End (f := f) hK)
 | ext f => rw [Inn_ext] at *; intro p h; have hK := hK p h; rw [h.1]; exact G.inv (method_eE p) (s_extend_Extend_End (x := f) hK)
 | com f => rw [Inn_com] at *; intro p h; have hK := hK p h; rw [h.1]; exact G.inv (method_cE p) (s_commit_Commit_End (x := f) hK)
theorem inv_By (ho : i.ok) (hK : G w0 (ob InnR (iv, vf, ve, vc) i :: M) (K (i64 i.by_))) : G w0 (ob InnR (iv, vf, ve, vc) i :: M) (invW Tryz.prog iv "By" [] K) := by
 cases i with
 | none => exact ho.elim
 | fetch f => rw [Inn_fetch] at *; intro p h; have hK := hK p h; rw [h.1]; exact G.inv (method_fB p) (s_fetch_Fetch_By (f := f) hK)
 | ext f => rw [Inn_ext] at *; intro p h; have hK := hK p h; rw [h.1]; exact G.inv (method_eB p) (s_extend_Extend_By (x := f) hK)
 | com f => rw [Inn_com] at *; intro p h; have hK := hK p h; rw [h.1]; exact G.inv (method_cB p) (s_commit_Commit_By (x := f) hK)
theorem inv_Next (ho : i.ok) (hK : G w0 (ob InnR (iv, vf, ve, vc) i :: M) (K (.tuple #[.agg (TOp.cells i.next.1).toArray, .bool i.next.2]))) : G w0 (ob InnR (iv, vf, ve, vc) i :: M) (invW Tryz.prog iv "Next" [] K) := by
 cases i with
 | none => exact ho.elim
 | fetch f => rw [Inn_fetch] at *; intro p h; have hK := hK p h; rw [h.1]; exact G.inv (method_fN p) (s_fetch_Fetch_Next (f := f) hK)
 | ext f => rw [Inn_ext] at *; intro p h; have hK := hK p h; rw [h.1]; exact G.inv (method_eN p) (s_extend_Extend_Next ho.1 hK)
 | com f => rw [Inn_com] at *; intro p h; have hK := hK p h; rw [h.1]; exact G.inv (method_cN p) (s_commit_Commit_Next ho hK)
theorem inv_Tell {a : TAns} (ho : i.ok) (hK : G w0 (ob InnR (iv, vf, ve, vc) (i.tell a) :: M) (K (.tuple #[]))) : G w0 (ob InnR (iv, vf, ve, vc) i :: M) (invW Tryz.prog iv "Tell" [.agg (TAns.cells a).toArray] K) := by
 cases i with
 | none => exact ho.elim
 | fetch f => rw [Inn_fetch] at *; intro p h; have hK := hK p h; rw [h.1]; exact G.inv (method_fT p) (s_fetch_Fetch_Tell (f := f) hK)
 | ext f => rw [Inn_ext] at *; intro p h; have hK := hK p h; rw [h.1]; exact G.inv (method_eT p) (s_extend_Extend_Tell ho.1 ho.2 hK)
 | com f => rw [Inn_com] at *; intro p h; have hK := hK p h; rw [h.1]; exact G.inv (method_cT p) (s_commit_Commit_Tell ho hK)
theorem s_attempt_End [i : SelOb L AttR b x C] (hK : G w0 L (K (i64 (if x.state = 8 then x.fin else 0)))) : G w0 L (CP Tryz.prog Fn.attempt_Attempt_End [ptr b 0] K) := by
 refine i.ro (fun M hK => ?_) hK
 refine C_attempt_Attempt_End ?_
 unfold S_attempt_Attempt_End
 rw [AttR_open] at *
 intro iv vf ve vc pr pv pq
 have hK := hK iv vf ve vc pr pv pq
 by_cases h : x.state = 8
 ·rw [if_pos h] at hK
  refine grf (eq_true h) ?_
  exact hK
 ·rw [if_neg h] at hK
  refine grf h ?_
  exact hK
theorem s_attempt_Err [i : SelOb L AttR b x C] (hK : G w0 L (K (i64 (if x.state = 8 then x.err else 0)))) : G w0 L (CP Tryz.prog Fn.attempt_Attempt_Err [ptr b 0] K) := by
 refine i.ro (fun M hK => ?_) hK
 refine C_attempt_Attempt_Err ?_
 unfold S_attempt_Attempt_Err
 rw [AttR_open] at *
 intro iv vf ve vc pr pv pq
 have hK := hK iv vf ve vc pr pv pq
 by_cases h : x.state = 8
 ·rw [if_pos h] at hK
  refine grf (eq_true h) ?_
  exact hK
 ·rw [if_neg h] at hK
  refine grf h ?_
  exact hK
theorem s_attempt_By [i : SelOb L AttR b x C] (hK : G w0 L (K (i64 (if x.state = 8 then x.by_ else -1)))) : G w0 L (CP Tryz.prog Fn.attempt_Attempt_By [ptr b 0] K) := by
 refine i.ro (fun M hK => ?_) hK
 refine C_attempt_Attempt_By ?_
 unfold S_attempt_Attempt_By
 rw [AttR_open] at *
 intro iv vf ve vc pr pv pq
 have hK := hK iv vf ve vc pr pv pq
 by_cases h : x.state = 8
 ·rw [if_pos h] at hK
  refine grf (eq_true h) ?_
  exact hK
 ·rw [if_neg h] at hK
  refine grf h ?_
  exact hK
theorem s_attempt_Begin [i : SelOb L AttR b x C] (hK : G w0 L (K (.tuple #[u64 x.beg, .bool x.begun]))) : G w0 L (CP Tryz.prog Fn.attempt_Attempt_Begin [ptr b 0] K) := by
 refine i.ro (fun M hK => ?_) hK
 refine C_attempt_Attempt_Begin ?_
 unfold S_attempt_Attempt_Begin
 rw [AttR_open] at *
 intro iv vf ve vc pr pv pq
 have hK := hK iv vf ve vc pr pv pq
 refine G.drew ?_
 refine gr ?_
 exact hK
theorem s_attempt_Stamp [i : SelOb L AttR b x C] (hK : G w0 L (K (u64 x.stamp))) : G w0 L (CP Tryz.prog Fn.attempt_Attempt_Stamp [ptr b 0] K) := by
 refine i.ro (fun M hK => ?_) hK
 refine C_attempt_Attempt_Stamp ?_
 unfold S_attempt_Attempt_Stamp
 rw [AttR_open] at *
 intro iv vf ve vc pr pv pq
 have hK := hK iv vf ve vc pr pv pq
 refine gr ?_
 exact hK
theorem s_attempt_Blocking [i : SelOb L AttR b x C] (hK : G w0 L (K (.bool (!decide (x.state = 8) && x.blocking)))) : G w0 L (CP Tryz.prog Fn.attempt_Attempt_Blocking [ptr b 0] K) := by
 refine i.ro (fun M hK => ?_) hK
 refine C_attempt_Attempt_Blocking ?_
 unfold S_attempt_Attempt_Blocking
 rw [AttR_open] at *
 intro iv vf ve vc pr pv pq
 have hK := hK iv vf ve vc pr pv pq
 try simp (maxSteps := 2000000) only [fuse_and, fuse_or, fuse_step, fuse_pair, fuse_in, andP_true]
 by_cases h : x.state = 8
 ·rw [decide_eq_true h] at hK
  refine grf (eq_true h) ?_
  exact hK
 ·rw [decide_eq_false h] at hK
  refine grf h ?_
  exact hK
theorem s_attempt_Seen (hl : x.rd.length ≤ 1000000) [i : SelOb L AttR b x C] (hK : ∀ u, Cells u [u] → G w0 (sl tSeenE u x.rd :: L) (K u)) : G w0 L (CP Tryz.prog Fn.attempt_Attempt_Seen [ptr b 0] K) := by
 refine i.roN (fun M hK => ?_) hK
 refine C_attempt_Attempt_Seen ?_
 unfold S_attempt_Attempt_Seen
 rw [AttR_open]
 intro iv vf ve vc pr pv pq
 refine gr ?_
 refine s_reads_Reads_All (xs := x.rd) hl fun u hu => ?_
 refine gr ?_
 refine AttR_close b x iv vf ve vc pr pv pq ?_
 exact (hK u hu).sub
theorem s_attempt_Reads (hl : x.v.k.length ≤ 1000000) [i : SelOb L AttR b x C] (hK : ∀ u, Cells u [u] → G w0 (sl tCellE u x.v.k :: L) (K u)) : G w0 L (CP Tryz.prog Fn.attempt_Attempt_Reads [ptr b 0] K) := by
 refine i.roN (fun M hK => ?_) hK
 refine C_attempt_Attempt_Reads ?_
 unfold S_attempt_Attempt_Reads
 rw [AttR_open]
 intro iv vf ve vc pr pv pq
 refine gr ?_
 refine s_view_Known (s := x.v) hl fun u hu => ?_
 refine gr ?_
 refine AttR_close b x iv vf ve vc pr pv pq ?_
 exact (hK u hu).sub
abbrev AttS.wr (x : AttS) : Bool := !decide (x.state = 8) && x.inn.wr
abbrev AttS.done (x : AttS) : Bool := decide ((if x.state = 8 then x.fin else 0) = 2) || x.wr
theorem s_attempt_Writing [i : SelOb L AttR b x C] (hK : G w0 L (K (.bool x.wr))) : G w0 L (CP Tryz.prog Fn.attempt_Attempt_Writing [ptr b 0] K) := by
 refine i.ro (fun M hK => ?_) hK
 refine C_attempt_Attempt_Writing ?_
 unfold S_attempt_Attempt_Writing
 rw [AttR_open] at *
 intro iv vf ve vc pr pv pq
 have hK := hK iv vf ve vc pr pv pq
 try simp (maxSteps := 2000000) only [fuse_and, fuse_or, fuse_step, fuse_pair, fuse_in, andP_true]
 by_cases h : x.state = 8
 ·have hw : x.wr = false := by unfold AttS.wr; simp [h]
  rw [hw] at hK
  refine grf (eq_true h) ?_
  exact hK
 ·have hw : x.wr = x.inn.wr := by unfold AttS.wr; simp [h]
  rw [hw] at hK
  cases hi : x.inn with
  | none =>
   rw [hi] at hK
   have hK : G w0 (ob InnR (iv, vf, ve, vc) .none :: own b (x.cells iv vf ve vc pr pv pq) :: ob IntGR (pr, pv) x.run :: ob ViewR pv x.v :: ob ReadsR pq (16, x.rd) :: M) (K (.bool false)) := hK.sub
   rw [Inn_none] at hK
   refine G.take1 InnR (iv, vf, ve, vc) ?_
   rw [Inn_none]
   intro e
   have hK := hK e
   subst e
   refine grf h ?_
   exact hK
  | fetch f =>
   rw [hi] at hK
   have hK : G w0 (ob InnR (iv, vf, ve, vc) (.fetch f) :: own b (x.cells iv vf ve vc pr pv pq) :: ob IntGR (pr, pv) x.run :: ob ViewR pv x.v :: ob ReadsR pq (16, x.rd) :: M) (K (.bool false)) := hK.sub
   rw [Inn_fetch] at hK
   refine G.take1 InnR (iv, vf, ve, vc) ?_
   rw [Inn_fetch]
   intro p e
   have hK := hK p e
   obtain ⟨e1, e2, e3⟩ := e
   subst e3
   refine grf h ?_
   exact hK
  | ext f =>
   rw [hi] at hK
   have hK : G w0 (ob InnR (iv, vf, ve, vc) (.ext f) :: own b (x.cells iv vf ve vc pr pv pq) :: ob IntGR (pr, pv) x.run :: ob ViewR pv x.v :: ob ReadsR pq (16, x.rd) :: M) (K (.bool false)) := hK.sub
   rw [Inn_ext] at hK
   refine G.take1 InnR (iv, vf, ve, vc) ?_
   rw [Inn_ext]
   intro p e
   have hK := hK p e
   obtain ⟨e1, e2, e3⟩ := e
   subst e3
   refine grf h ?_
   exact hK
  | com f =>
   rw [hi] at hK
   have hK : G w0 (ob InnR (iv, vf, ve, vc) (.com f) :: own b (x.cells iv vf ve vc pr pv pq) :: ob IntGR (pr, pv) x.run :: ob ViewR pv x.v :: ob ReadsR pq (16, x.rd) :: M) (K (.bool ((f.writing && decide (f.pat.fin = 0)) || decide (f.pat.fin = 2)))) := hK.sub
   rw [Inn_com] at hK
   refine G.take1 InnR (iv, vf, ve, vc) ?_
   rw [Inn_com]
   intro p e
   have hK := hK p e
   obtain ⟨e1, e3⟩ := e
   subst e3
   refine grf h ?_
   refine s_commit_Commit_Writing (x := f) ?_
   refine gr ?_
   refine G.any (decide (f.pat.fin = 2)) (fun _ K hK => ?_) ?_
   ·refine gr ?_
    refine s_commit_Commit_End (x := f) ?_
    refine gr ?_
    exact hK
   ·exact hK
theorem s_attempt_committed [i : SelOb L AttR b x C] (hK : G w0 L (K (.bool x.done))) : G w0 L (CP Tryz.prog Fn.attempt_Attempt_committed [ptr b 0] K) := by
 refine i.ro (fun M hK => ?_) hK
 refine C_attempt_Attempt_committed ?_
 unfold S_attempt_Attempt_committed
 refine s_attempt_End (x := x) ?_
 try simp (maxSteps := 2000000) only [fuse_and, fuse_or, fuse_step, fuse_pair, fuse_in, andP_true]
 refine gr ?_
 refine G.any x.wr (fun _ K hK => ?_) ?_
 ·refine gr ?_
  refine s_attempt_Writing (x := x) ?_
  exact hK
 ·exact hK
theorem s_attempt_Cells [i : SelOb L AttR b x C] (hK : ∀ u : SlV, G w0 (sl tCellE u.v (if x.done then x.v.l.cells else []) :: L) (K u.v)) : G w0 L (CP Tryz.prog Fn.attempt_Attempt_Cells [ptr b 0] K) := by
 refine i.roN (P := fun _ => True) (N := fun u : SlV => sl tCellE u.v (if x.done then x.v.l.cells else [])) (F' := fun u => K u.v) (fun M hK => ?_) (fun u _ => hK u)
 have hK := fun u => hK u trivial
 refine C_attempt_Attempt_Cells ?_
 unfold S_attempt_Attempt_Cells
 refine s_attempt_committed (x := x) ?_
 cases hd : x.done
 ·simp only [hd, Bool.false_eq_true, if_false] at hK
  refine gr ?_
  refine G.nilsl tCellE ?_
  exact hK ⟨none, 0, 0⟩
 ·simp only [hd, if_true] at hK
  refine gr ?_
  rw [AttR_open]
  intro iv vf ve vc pr pv pq
  refine gr ?_
  refine s_view_Cells (s := x.v) fun u hu => ?_
  refine AttR_close b x iv vf ve vc pr pv pq ?_
  refine G.isSl (v := u) fun s hs => ?_
  subst hs
  exact (hK s).sub
theorem s_attempt_Frees (hf : x.v.l.frees = []) [i : SelOb L AttR b x C] (hK : ∀ u : SlV, G w0 (sl intE u.v [] :: L) (K u.v)) : G w0 L (CP Tryz.prog Fn.attempt_Attempt_Frees [ptr b 0] K) := by
 refine i.roN (P := fun _ => True) (N := fun u : SlV => sl intE u.v []) (F' := fun u => K u.v) (fun M hK => ?_) (fun u _ => hK u)
 have hK := fun u => hK u trivial
 refine C_attempt_Attempt_Frees ?_
 unfold S_attempt_Attempt_Frees
 refine s_attempt_committed (x := x) ?_
 cases hd : x.done
 ·refine gr ?_
  refine G.nilsl intE ?_
  exact hK ⟨none, 0, 0⟩
 ·refine gr ?_
  rw [AttR_open]
  intro iv vf ve vc pr pv pq
  refine gr ?_
  refine s_view_Frees (s := x.v) (by rw [hf]; exact Nat.zero_le _) fun u hu => ?_
  rw [hf]
  refine AttR_close b x iv vf ve vc pr pv pq ?_
  refine G.isSl (v := u) fun s hs => ?_
  subst hs
  exact (hK s).sub
def TextOk (l : List Int) : Prop := l = [] ∨ (l.length = 1 ∧ ∀ n ∈ l, 0 ≤ n ∧ n < 10)
theorem g_slate_Text {xs : List Int} [i : SelOb L SlateR b xs C] (h1 : TextOk xs) (hK : G w0 L (K (.string (textV xs)))) : G w0 L (CP Tryz.prog Fn.slate_Slate_Text [ptr b 0] K) := by
 rcases h1 with rfl | ⟨h1, h2⟩
 ·refine i.ro (fun M hK => ?_) hK
  refine C_slate_Slate_Text ?_
  unfold S_slate_Slate_Text
  rw [BoxR_open] at *
  intro v hv
  have hK := hK v hv
  refine gr ?_
  rw [show i64 (([] : List Int).length : Int) = i64 ((0 : Nat) : Int) from rfl]
  refine G.make strE ⟨#[]⟩ rfl (by decide) (by decide) fun u hu => ?_
  refine gr ?_
  refine G.loop1 (fun k : Nat => i64 k) (fun k => sl strE u [] :: own b [v] :: sl anyE v [] :: M) (fun k => k = 0) (fun k => 0) 0 rfl rfl rfl ?_
  rintro k rfl J hJ
  have c0 : ((((0 : Nat) : Int) < (([] : List Int).length : Int))) = False := by simp
  refine grf c0 ?_
  refine C_strings_Join ?_
  unfold S_strings_Join
  have c1 : (((([] : List ByteArray).length : Int)) = 0) = True := by simp
  refine grf c1 ?_
  exact hK.sub
 ·exact s_slate_Slate_Text h1 h2 hK
theorem s_attempt_Slate (hs : x.done = true → TextOk x.run.items) [i : SelOb L AttR b x C] (hK : G w0 L (K (.string (if x.done then textV x.run.items else ⟨#[]⟩)))) : G w0 L (CP Tryz.prog Fn.attempt_Attempt_Slate [ptr b 0] K) := by
 refine i.ro (fun M hK => ?_) hK
 refine C_attempt_Attempt_Slate ?_
 unfold S_attempt_Attempt_Slate
 refine s_attempt_committed (x := x) ?_
 try simp (maxSteps := 2000000) only [fuse_and, fuse_or, fuse_step, fuse_pair, fuse_in, andP_true]
 cases hd : x.done
 ·rw [hd] at hK
  refine gr ?_
  exact hK
 ·rw [hd, if_pos rfl] at hK
  refine gr ?_
  rw [AttR_open] at *
  intro iv vf ve vc pr pv pq
  have hK := hK iv vf ve vc pr pv pq
  refine gr ?_
  refine g_interp_Slate (vp := pv) (x := x.run) (by rcases hs hd with h1 | h1 <;> simp [h1]) fun c => ?_
  refine gr ?_
  refine g_slate_Text (xs := x.run.items) (hs hd) ?_
  exact hK.sub
end
end Go.Proofs.YtoealglbimbbmaaGreatDoor.S
namespace Go.Proofs.YtoealglbimbbmaaGreatDoor.S
open Go Go.Proofs
set_option linter.unusedVariables false
set_option linter.unusedSimpArgs false
abbrev Inn.isCom : Inn → Bool
 | .com _ => true
 | _ => false
abbrev attOut (x : AttS) (e er b : Int) : AttS := { x with fin := e, err := er, by_ := b, state := 7 }
abbrev attAsk (x : AttS) (c : Int) : AttS := { x with inn := .fetch (fetchNew x.me c (stripeOf c x.s.stripes x.s.wide) x.s.spins x.stamp), state := 3 }
abbrev attLater (x : AttS) (st : Int) : AttS := { x with inn := .ext (extNew x.me x.s.spins x.rd), state := st }
def attDid (x : AttS) (r : IntG × VwS × Int) : AttS :=
 if r.2.2 = 1 then attAsk { x with run := r.1, v := r.2.1 } r.2.1.need
 else if r.2.2 = 3 then attLater { x with run := r.1, v := r.2.1, blocking := true } 5
 else if r.2.2 = 4 then attOut { x with run := r.1, v := r.2.1 } 4 r.1.err (-1)
 else if r.2.1.l.cells = [] then attOut { x with run := r.1, v := r.2.1 } 2 0 (-1)
 else { x with run := r.1, v := r.2.1, inn := .com (comNew x.me x.s.spins x.stamp x.rd r.2.1.l.cells (marked (hasStripe r.2.1.l.cells x.s.stripes x.s.wide) 16)), state := 6 }
def attWork (x : AttS) : AttS := attDid x (iRun 500 x.run x.v)
structure WorkOk (x : AttS) : Prop where
 run : RunOk 500 x.run x.v
 com : x.inn.isCom = false
 rd : x.rd.length ≤ 1000
 cells : (iRun 500 x.run x.v).2.1.l.cells.length ≤ 1000
section
variable {w0 : Base} {L M : List Asn} {K : KV} {F : World → Prop} {C : Asn → List Asn} {b pr pv pq : Nat} {x : AttS} {v iv vf ve vc : Value} {i : Inn} {c : Int}
theorem G.innDrop (h : i.isCom = false) (H : vc = .pointer none → G w0 M F) : G w0 (ob InnR (iv, vf, ve, vc) i :: M) F := by
 cases i with
 | none => rw [Inn_none]; exact H
 | fetch f => rw [Inn_fetch]; intro p e; exact (H e.2.2).sub
 | ext f => rw [Inn_ext]; intro p e; exact (H e.2.2).sub
 | com f => cases h
theorem s_attempt_out {e er by_ : Int} [i : SelOb L AttR b x C] (hK : G w0 (C (ob AttR b (attOut x e er by_))) (K (.tuple #[]))) : G w0 L (CP Tryz.prog Fn.attempt_Attempt_out [ptr b 0, i64 e, i64 er, i64 by_] K) := by
 refine i.use (fun M hK => ?_) hK
 refine C_attempt_Attempt_out ?_
 unfold S_attempt_Attempt_out
 rw [AttR_open] at *
 intro iv vf ve vc pr pv pq
 have hK := hK iv vf ve vc pr pv pq
 refine gr ?_
 exact hK
theorem s_attempt_ask (hc : x.inn.isCom = false) [i : SelOb L AttR b x C] (hK : G w0 (C (ob AttR b (attAsk x c))) (K (.tuple #[]))) : G w0 L (CP Tryz.prog Fn.attempt_Attempt_ask [ptr b 0, i64 c] K) := by
 refine i.use (fun M hK => ?_) hK
 refine C_attempt_Attempt_ask ?_
 unfold S_attempt_Attempt_ask
 rw [AttR_open]
 intro iv vf ve vc pr pv pq
 refine G.take1 InnR (iv, vf, ve, vc) ?_
 refine G.innDrop hc fun e => ?_
 subst e
 refine G.drew ?_
 refine gr ?_
 refine s_stripe_Of ?_
 refine gr ?_
 refine s_fetch_New fun p => ?_
 refine gr ?_
 refine C_attempt_Attempt_enter ?_
 unfold S_attempt_Attempt_enter
 refine gr ?_
 refine Att_fetch (p := p) b (attAsk x c) ve pr pv pq rfl ?_
 exact hK
theorem s_attempt_later {st : Int} (hc : x.inn.isCom = false) (hl : x.rd.length ≤ 1000000) [i : SelOb L AttR b x C] (hK : G w0 (C (ob AttR b (attLater x st))) (K (.tuple #[]))) : G w0 L (CP Tryz.prog Fn.attempt_Attempt_later [ptr b 0, i64 st] K) := by
 refine i.use (fun M hK => ?_) hK
 refine C_attempt_Attempt_later ?_
 unfold S_attempt_Attempt_later
 rw [AttR_open]
 intro iv vf ve vc pr pv pq
 refine G.take1 InnR (iv, vf, ve, vc) ?_
 refine G.innDrop hc fun e => ?_
 subst e
 refine G.drew ?_
 refine gr ?_
 refine s_reads_Reads_All (xs := x.rd) hl fun u hu => ?_
 refine gr ?_
 refine s_extend_New (xs := x.rd) hl fun p => ?_
 refine gr ?_
 refine C_attempt_Attempt_enter ?_
 unfold S_attempt_Attempt_enter
 refine gr ?_
 refine Att_ext (p := p) b (attLater x st) vf pr pv pq rfl ?_
 exact hK.sub
theorem s_attempt_work (ho : WorkOk x) [i : SelOb L AttR b x C] (hK : G w0 (C (ob AttR b (attWork x))) (K (.tuple #[]))) :
  G w0 L (CP Tryz.prog Fn.attempt_Attempt_work [ptr b 0] K) := by
 refine i.use (fun M hK => ?_) hK
 refine C_attempt_Attempt_work ?_
 unfold S_attempt_Attempt_work
 refine C_attempt_Attempt_do ?_
 unfold S_attempt_Attempt_do
 obtain ⟨o1, o2, o3, o4⟩ := ho
 rw [AttR_open]
 intro iv vf ve vc pr pv pq
 repeat' (first | (with_reducible refine G.joini0 ?_) | (with_reducible refine G.joini1 ?_) | (with_reducible refine G.drew ?_) | (simp (maxSteps := 2000000) only [↓RG, RP, RB, BEq.rfl, Int.reduceEq, Int.reduceLT, Int.reduceLE, Nat.reduceEqDiff]))
 refine G.pickAll (As := [ob IntGR (pr, pv) x.run, ob ViewR pv x.v]) ?_
 simp only [List.cons_append, List.nil_append]
 unfold attWork at hK
 refine g_interp_Run (n := 500) o1 ?_
 generalize iRun 500 x.run x.v = r at hK o4
 obtain ⟨y, t, q⟩ := r
 unfold attDid at hK
 simp only at hK o4 ⊢
 repeat' (first | (with_reducible refine G.joini0 ?_) | (with_reducible refine G.joini1 ?_) | (with_reducible refine G.drew ?_) | (simp (maxSteps := 2000000) only [↓RG, RP, RB, BEq.rfl, Int.reduceEq, Int.reduceLT, Int.reduceLE, Nat.reduceEqDiff]))
 refine g_interp_Err (vp := pv) (x := y) ?_
 by_cases c1 : q = 1
 ·rw [if_pos c1] at hK
  repeat' (first | (with_reducible refine G.joini0 ?_) | (with_reducible refine G.joini1 ?_) | (with_reducible refine G.drew ?_) | (simp (maxSteps := 2000000) only [↓RG, RP, RB, BEq.rfl, Int.reduceEq, Int.reduceLT, Int.reduceLE, Nat.reduceEqDiff, eq_true c1]))
  refine s_view_Need (s := t) ?_
  refine AttR_close b { x with run := y, v := t } iv vf ve vc pr pv pq ?_
  refine s_attempt_ask (x := { x with run := y, v := t }) o2 ?_
  repeat' (first | (with_reducible refine G.joini0 ?_) | (with_reducible refine G.joini1 ?_) | (with_reducible refine G.drew ?_) | (simp (maxSteps := 2000000) only [↓RG, RP, RB, BEq.rfl, Int.reduceEq, Int.reduceLT, Int.reduceLE, Nat.reduceEqDiff]))
  exact hK
 rw [if_neg c1] at hK
 by_cases c3 : q = 3
 ·rw [if_pos c3] at hK
  repeat' (first | (with_reducible refine G.joini0 ?_) | (with_reducible refine G.joini1 ?_) | (with_reducible refine G.drew ?_) | (simp (maxSteps := 2000000) only [↓RG, RP, RB, BEq.rfl, Int.reduceEq, Int.reduceLT, Int.reduceLE, Nat.reduceEqDiff, c1, eq_true c3]))
  refine AttR_close b { x with run := y, v := t, blocking := true } iv vf ve vc pr pv pq ?_
  refine s_attempt_later (x := { x with run := y, v := t, blocking := true }) o2 (by simp only; omega) ?_
  repeat' (first | (with_reducible refine G.joini0 ?_) | (with_reducible refine G.joini1 ?_) | (with_reducible refine G.drew ?_) | (simp (maxSteps := 2000000) only [↓RG, RP, RB, BEq.rfl, Int.reduceEq, Int.reduceLT, Int.reduceLE, Nat.reduceEqDiff]))
  exact hK
 rw [if_neg c3] at hK
 by_cases c4 : q = 4
 ·rw [if_pos c4] at hK
  repeat' (first | (with_reducible refine G.joini0 ?_) | (with_reducible refine G.joini1 ?_) | (with_reducible refine G.drew ?_) | (simp (maxSteps := 2000000) only [↓RG, RP, RB, BEq.rfl, Int.reduceEq, Int.reduceLT, Int.reduceLE, Nat.reduceEqDiff, c1, c3, eq_true c4]))
  refine AttR_close b { x with run := y, v := t } iv vf ve vc pr pv pq ?_
  refine s_attempt_out (x := { x with run := y, v := t }) ?_
  repeat' (first | (with_reducible refine G.joini0 ?_) | (with_reducible refine G.joini1 ?_) | (with_reducible refine G.drew ?_) | (simp (maxSteps := 2000000) only [↓RG, RP, RB, BEq.rfl, Int.reduceEq, Int.reduceLT, Int.reduceLE, Nat.reduceEqDiff]))
  exact hK
 rw [if_neg c4] at hK
 repeat' (first | (with_reducible refine G.joini0 ?_) | (with_reducible refine G.joini1 ?_) | (with_reducible refine G.drew ?_) | (simp (maxSteps := 2000000) only [↓RG, RP, RB, BEq.rfl, Int.reduceEq, Int.reduceLT, Int.reduceLE, Nat.reduceEqDiff, c1, c3, c4]))
 refine s_view_Cells (s := t) fun u hu => ?_
 by_cases cz : t.l.cells = []
 ·rw [if_pos cz] at hK
  rw [cz]
  repeat' (first | (with_reducible refine G.joini0 ?_) | (with_reducible refine G.joini1 ?_) | (with_reducible refine G.drew ?_) | (simp (maxSteps := 2000000) only [↓RG, RP, RB, BEq.rfl, Int.reduceEq, Int.reduceLT, Int.reduceLE, Nat.reduceEqDiff, List.length_nil, Int.cast_ofNat_Int]))
  refine AttR_close b { x with run := y, v := t } iv vf ve vc pr pv pq ?_
  refine s_attempt_out (x := { x with run := y, v := t }) ?_
  repeat' (first | (with_reducible refine G.joini0 ?_) | (with_reducible refine G.joini1 ?_) | (with_reducible refine G.drew ?_) | (simp (maxSteps := 2000000) only [↓RG, RP, RB, BEq.rfl, Int.reduceEq, Int.reduceLT, Int.reduceLE, Nat.reduceEqDiff]))
  exact hK.sub
 ·rw [if_neg cz] at hK
  have cl : ¬ ((t.l.cells.length : Nat) : Int) = 0 := by
   intro g
   exact cz (List.length_eq_zero_iff.1 (by omega))
  repeat' (first | (with_reducible refine G.joini0 ?_) | (with_reducible refine G.joini1 ?_) | (with_reducible refine G.drew ?_) | (simp (maxSteps := 2000000) only [↓RG, RP, RB, BEq.rfl, Int.reduceEq, Int.reduceLT, Int.reduceLE, Nat.reduceEqDiff, cl]))
  refine s_reads_Reads_All (xs := x.rd) (by omega) fun u2 hu2 => ?_
  repeat' (first | (with_reducible refine G.joini0 ?_) | (with_reducible refine G.joini1 ?_) | (with_reducible refine G.drew ?_) | (simp (maxSteps := 2000000) only [↓RG, RP, RB, BEq.rfl, Int.reduceEq, Int.reduceLT, Int.reduceLE, Nat.reduceEqDiff]))
  refine s_commit_New (seen := x.rd) (cells := t.l.cells) (by omega) (by omega) fun p => ?_
  repeat' (first | (with_reducible refine G.joini0 ?_) | (with_reducible refine G.joini1 ?_) | (with_reducible refine G.drew ?_) | (simp (maxSteps := 2000000) only [↓RG, RP, RB, BEq.rfl, Int.reduceEq, Int.reduceLT, Int.reduceLE, Nat.reduceEqDiff]))
  refine C_attempt_Attempt_enter ?_
  unfold S_attempt_Attempt_enter
  repeat' (first | (with_reducible refine G.joini0 ?_) | (with_reducible refine G.joini1 ?_) | (with_reducible refine G.drew ?_) | (simp (maxSteps := 2000000) only [↓RG, RP, RB, BEq.rfl, Int.reduceEq, Int.reduceLT, Int.reduceLE, Nat.reduceEqDiff]))
  refine Att_com (p := p) b { x with run := y, v := t, inn := .com (comNew x.me x.s.spins x.stamp x.rd t.l.cells (marked (hasStripe t.l.cells x.s.stripes x.s.wide) 16)), state := 6 } vf ve pr pv pq rfl ?_
  exact hK.sub
abbrev attSeen (x : AttS) (f : FetchS) : AttS := { x with rd := addSeen 16 x.rd ⟨f.stripe, f.lock.version⟩ }
abbrev attKnow (x : AttS) (f : FetchS) : AttS := { attSeen x f with v := (vKnow x.v x.v.need f.word).1 }
def attFetched (x : AttS) (f : FetchS) : AttS :=
 if f.pat.fin = 6 then attLater x 4
 else if addErr 16 x.rd ⟨f.stripe, f.lock.version⟩ = 0 then attWork (attKnow x f)
 else if addErr 16 x.rd ⟨f.stripe, f.lock.version⟩ = 14 then attOut (attSeen x f) 5 0 (-1)
 else attOut (attSeen x f) 4 (addErr 16 x.rd ⟨f.stripe, f.lock.version⟩) (-1)
structure FetOk (x : AttS) (f : FetchS) : Prop where
 fin : f.pat.fin = 6 ∨ f.pat.fin = 2
 rd : x.rd.length ≤ 1000
 known : x.v.k.length ≤ 1000
 work : f.pat.fin = 2 → addErr 16 x.rd ⟨f.stripe, f.lock.version⟩ = 0 → WorkOk (attKnow x f)
abbrev attEnded (x : AttS) : AttS := match x.inn with
 | .none => x
 | .fetch f => attFetched x f
 | .ext e => if x.state = 4 then attAsk { x with stamp := e.stamp } x.v.need else attOut { x with stamp := e.stamp } 3 0 (-1)
 | .com m => attOut x m.pat.fin m.pat.err (-1)
abbrev Inn.stamp : Inn → Int
 | .com m => if m.writing = true then IntKind.wrap .u64 (m.now + 1) else 0
 | _ => 0
abbrev attMark (x : AttS) : AttS := if x.wr = true then { x with stamp := x.inn.stamp } else x
abbrev attTold (x : AttS) : AttS := attMark (if x.inn.fin = 0 then x else if x.inn.fin = 5 then attOut x 5 0 x.inn.by_ else attEnded x)
abbrev attTell (x : AttS) (a : TAns) : AttS :=
 if x.state = 8 then x
 else if x.state = 0 then { x with state := 1 }
 else if x.state = 1 then { x with begun := true, beg := a.word, stamp := a.word, state := 2 }
 else if x.state = 2 then attWork x
 else if x.state = 7 then { x with state := 8 }
 else attTold { x with inn := x.inn.tell a }
abbrev attNext (x : AttS) : TOp × Bool :=
 if x.state = 0 then (⟨9, x.me, 0, 1, zeroLock, zeroLock⟩, true)
 else if x.state = 1 then (⟨6, 0, 0, 0, zeroLock, zeroLock⟩, true)
 else if x.state = 2 then (⟨9, x.me, 0, IntKind.wrap .u64 (x.stamp + 1), zeroLock, zeroLock⟩, true)
 else if x.state = 7 then (⟨9, x.me, 0, 0, zeroLock, zeroLock⟩, true)
 else if x.state = 8 then (zeroOp, false)
 else x.inn.next
structure ToldOk (x : AttS) : Prop where
 ok : x.inn.ok
 fetch : ∀ f, x.inn = .fetch f → x.state = 3 ∧ (f.pat.fin = 0 ∨ f.pat.fin = 5 ∨ FetOk x f)
 ext : ∀ e, x.inn = .ext e → (x.state = 4 ∨ x.state = 5) ∧ (e.pat.fin = 0 ∨ e.pat.fin = 5 ∨ e.pat.fin = 2)
 com : ∀ m, x.inn = .com m → x.state = 6
theorem s_attempt_fetched {f : FetchS} (hx : x.inn = .fetch f) (ho : FetOk x f) [i : SelOb L AttR b x C]
  (hK : G w0 (C (ob AttR b (attFetched x f))) (K (.tuple #[]))) : G w0 L (CP Tryz.prog Fn.attempt_Attempt_fetched [ptr b 0] K) := by
 refine i.use (fun M hK => ?_) hK
 refine C_attempt_Attempt_fetched ?_
 unfold S_attempt_Attempt_fetched
 obtain ⟨o1, o2, o3, o4⟩ := ho
 rw [AttR_open]
 intro iv vf ve vc pr pv pq
 refine G.take1 InnR (iv, vf, ve, vc) ?_
 rw [hx, Inn_fetch]
 rintro p ⟨e1, e2, e3⟩
 subst e1 e2 e3
 unfold attFetched at hK
 refine gr ?_
 refine s_fetch_Fetch_End (f := f) ?_
 rcases o1 with h6 | hf2
 ·rw [if_pos h6] at hK
  refine grf h6 ?_
  refine Att_fetch (p := p) b x ve pr pv pq hx ?_
  refine s_attempt_later (x := x) (by rw [hx]) (by omega) ?_
  refine gr ?_
  exact hK
 ·rw [if_neg (by omega)] at hK
  have o4 := o4 hf2
  repeat' (first | (with_reducible refine G.joini0 ?_) | (with_reducible refine G.joini1 ?_) | (with_reducible refine G.drew ?_) | (simp (maxSteps := 2000000) only [↓RG, RP, RB, BEq.rfl, Int.reduceEq, Int.reduceLT, Int.reduceLE, Nat.reduceEqDiff, hf2]))
  refine s_fetch_Fetch_Seen (f := f) ?_
  rw [if_pos hf2]
  refine gg ?_
  refine s_reads_Reads_Add (m := 16) (xs := x.rd) (x := ⟨f.stripe, f.lock.version⟩) o2 ?_
  by_cases c0 : addErr 16 x.rd ⟨f.stripe, f.lock.version⟩ = 0
  ·rw [if_pos c0] at hK
   rw [c0]
   repeat' (first | (with_reducible refine G.joini0 ?_) | (with_reducible refine G.joini1 ?_) | (with_reducible refine G.drew ?_) | (simp (maxSteps := 2000000) only [↓RG, RP, RB, BEq.rfl, Int.reduceEq, Int.reduceLT, Int.reduceLE, Nat.reduceEqDiff]))
   refine s_view_Need (s := x.v) ?_
   refine gg ?_
   refine s_fetch_Fetch_Word (f := f) ?_
   rw [if_pos hf2]
   refine gg ?_
   refine s_view_Know (s := x.v) (by omega) ?_
   refine gg ?_
   refine Att_fetch (p := p) (f := f) b (attKnow x f) ve pr pv pq hx ?_
   refine s_attempt_work (x := attKnow x f) (o4 c0) ?_
   repeat' (first | (with_reducible refine G.joini0 ?_) | (with_reducible refine G.joini1 ?_) | (with_reducible refine G.drew ?_) | (simp (maxSteps := 2000000) only [↓RG, RP, RB, BEq.rfl, Int.reduceEq, Int.reduceLT, Int.reduceLE, Nat.reduceEqDiff]))
   exact hK
  ·rw [if_neg c0] at hK
   have hout : ∀ e er J, G w0 (ob AttR b (attOut (attSeen x f) e er (-1)) :: M) J → G w0 (ob ReadsR pq (16, addSeen 16 x.rd ⟨f.stripe, f.lock.version⟩) :: ob FetchR p f :: own b (x.cells (.iface 215 (ptr p 0)) (ptr p 0) ve (.pointer none) pr pv pq) :: ob IntGR (pr, pv) x.run :: ob ViewR pv x.v :: M) (CP Tryz.prog Fn.attempt_Attempt_out [ptr b 0, i64 e, i64 er, i64 (-1)] (fun _ => J)) := fun e er J hJ => by
    refine Att_fetch (p := p) (f := f) b (attSeen x f) ve pr pv pq hx ?_
    exact s_attempt_out (x := attSeen x f) hJ
   by_cases c14 : addErr 16 x.rd ⟨f.stripe, f.lock.version⟩ = 14
   ·rw [if_pos c14] at hK
    rw [c14]
    refine gg ?_
    exact (hout 5 0 _ hK).sub
   ·rw [if_neg c14] at hK
    refine gf (an c0 c14) ?_
    exact (hout 4 _ _ hK).sub
theorem s_attempt_ended (ho : ToldOk x) (h0 : x.inn.fin ≠ 0) (h5 : x.inn.fin ≠ 5) [i : SelOb L AttR b x C] (hK : G w0 (C (ob AttR b (attEnded x))) (K (.tuple #[]))) : G w0 L (CP Tryz.prog Fn.attempt_Attempt_ended [ptr b 0] K) := by
 refine i.use (fun M hK => ?_) hK
 refine C_attempt_Attempt_ended ?_
 unfold S_attempt_Attempt_ended
 cases hx : x.inn with
 | none => have := ho.ok; rw [hx] at this; exact this.elim
 | fetch f =>
  obtain ⟨s3, hr⟩ := ho.fetch f hx
  rw [hx] at h0 h5
  have h0 : f.pat.fin ≠ 0 := h0
  have h5 : f.pat.fin ≠ 5 := h5
  have hr : FetOk x f := by
   rcases hr with g | g | g
   ·exact absurd g h0
   ·exact absurd g h5
   ·exact g
  simp only [attEnded, hx] at hK
  rw [AttR_open]
  intro iv vf ve vc pr pv pq
  repeat' (first | (with_reducible refine G.joini0 ?_) | (with_reducible refine G.joini1 ?_) | (with_reducible refine G.drew ?_) | (simp (maxSteps := 2000000) only [↓RG, RP, RB, BEq.rfl, Int.reduceEq, Int.reduceLT, Int.reduceLE, Nat.reduceEqDiff, eq_true s3]))
  refine AttR_close b x iv vf ve vc pr pv pq ?_
  refine s_attempt_fetched (x := x) (f := f) hx hr ?_
  repeat' (first | (with_reducible refine G.joini0 ?_) | (with_reducible refine G.joini1 ?_) | (with_reducible refine G.drew ?_) | (simp (maxSteps := 2000000) only [↓RG, RP, RB, BEq.rfl, Int.reduceEq, Int.reduceLT, Int.reduceLE, Nat.reduceEqDiff]))
  exact hK
 | ext e =>
  obtain ⟨s4, hf⟩ := ho.ext e hx
  rw [hx] at h0 h5
  have h0 : e.pat.fin ≠ 0 := h0
  have h5 : e.pat.fin ≠ 5 := h5
  have hf2 : e.pat.fin = 2 := by omega
  simp only [attEnded, hx] at hK
  rw [AttR_open]
  intro iv vf ve vc pr pv pq
  refine G.take1 InnR (iv, vf, ve, vc) ?_
  rw [hx, Inn_ext]
  rintro p ⟨e1, e2, e3⟩
  subst e1 e2 e3
  have n3 : x.state ≠ 3 := by omega
  by_cases c4 : x.state = 4
  ·rw [if_pos c4] at hK
   repeat' (first | (with_reducible refine G.joini0 ?_) | (with_reducible refine G.joini1 ?_) | (with_reducible refine G.drew ?_) | (simp (maxSteps := 2000000) only [↓RG, RP, RB, BEq.rfl, Int.reduceEq, Int.reduceLT, Int.reduceLE, Nat.reduceEqDiff, n3, eq_true c4]))
   refine s_extend_Extend_Stamp (x := e) ?_
   rw [if_pos hf2]
   repeat' (first | (with_reducible refine G.joini0 ?_) | (with_reducible refine G.joini1 ?_) | (with_reducible refine G.drew ?_) | (simp (maxSteps := 2000000) only [↓RG, RP, RB, BEq.rfl, Int.reduceEq, Int.reduceLT, Int.reduceLE, Nat.reduceEqDiff]))
   refine s_view_Need (s := x.v) ?_
   refine Att_ext (p := p) (f := e) b { x with stamp := e.stamp } vf pr pv pq hx ?_
   refine s_attempt_ask (x := { x with stamp := e.stamp }) (c := x.v.need) (by show x.inn.isCom = false; rw [hx]) ?_
   repeat' (first | (with_reducible refine G.joini0 ?_) | (with_reducible refine G.joini1 ?_) | (with_reducible refine G.drew ?_) | (simp (maxSteps := 2000000) only [↓RG, RP, RB, BEq.rfl, Int.reduceEq, Int.reduceLT, Int.reduceLE, Nat.reduceEqDiff]))
   exact hK
  ·rw [if_neg c4] at hK
   have c5 : x.state = 5 := by omega
   repeat' (first | (with_reducible refine G.joini0 ?_) | (with_reducible refine G.joini1 ?_) | (with_reducible refine G.drew ?_) | (simp (maxSteps := 2000000) only [↓RG, RP, RB, BEq.rfl, Int.reduceEq, Int.reduceLT, Int.reduceLE, Nat.reduceEqDiff, n3, c4, eq_true c5]))
   refine s_extend_Extend_Stamp (x := e) ?_
   rw [if_pos hf2]
   repeat' (first | (with_reducible refine G.joini0 ?_) | (with_reducible refine G.joini1 ?_) | (with_reducible refine G.drew ?_) | (simp (maxSteps := 2000000) only [↓RG, RP, RB, BEq.rfl, Int.reduceEq, Int.reduceLT, Int.reduceLE, Nat.reduceEqDiff]))
   refine Att_ext (p := p) (f := e) b { x with stamp := e.stamp } vf pr pv pq hx ?_
   refine s_attempt_out (x := { x with stamp := e.stamp }) ?_
   repeat' (first | (with_reducible refine G.joini0 ?_) | (with_reducible refine G.joini1 ?_) | (with_reducible refine G.drew ?_) | (simp (maxSteps := 2000000) only [↓RG, RP, RB, BEq.rfl, Int.reduceEq, Int.reduceLT, Int.reduceLE, Nat.reduceEqDiff]))
   rw [← hx] at hK
   exact hK
 | com m =>
  have s6 := ho.com m hx
  simp only [attEnded, hx] at hK
  rw [AttR_open]
  intro iv vf ve vc pr pv pq
  refine G.take1 InnR (iv, vf, ve, vc) ?_
  rw [hx, Inn_com]
  rintro p ⟨e1, e3⟩
  subst e1 e3
  have n3 : x.state ≠ 3 := by omega
  have n4 : x.state ≠ 4 := by omega
  have n5 : x.state ≠ 5 := by omega
  repeat' (first | (with_reducible refine G.joini0 ?_) | (with_reducible refine G.joini1 ?_) | (with_reducible refine G.drew ?_) | (simp (maxSteps := 2000000) only [↓RG, RP, RB, BEq.rfl, Int.reduceEq, Int.reduceLT, Int.reduceLE, Nat.reduceEqDiff, n3, n4, n5, eq_true s6]))
  refine s_commit_Commit_End (x := m) ?_
  repeat' (first | (with_reducible refine G.joini0 ?_) | (with_reducible refine G.joini1 ?_) | (with_reducible refine G.drew ?_) | (simp (maxSteps := 2000000) only [↓RG, RP, RB, BEq.rfl, Int.reduceEq, Int.reduceLT, Int.reduceLE, Nat.reduceEqDiff]))
  refine s_commit_Commit_Err (x := m) ?_
  repeat' (first | (with_reducible refine G.joini0 ?_) | (with_reducible refine G.joini1 ?_) | (with_reducible refine G.drew ?_) | (simp (maxSteps := 2000000) only [↓RG, RP, RB, BEq.rfl, Int.reduceEq, Int.reduceLT, Int.reduceLE, Nat.reduceEqDiff]))
  refine Att_com (p := p) (f := m) b x vf ve pr pv pq hx ?_
  refine s_attempt_out (x := x) ?_
  repeat' (first | (with_reducible refine G.joini0 ?_) | (with_reducible refine G.joini1 ?_) | (with_reducible refine G.drew ?_) | (simp (maxSteps := 2000000) only [↓RG, RP, RB, BEq.rfl, Int.reduceEq, Int.reduceLT, Int.reduceLE, Nat.reduceEqDiff]))
  exact hK
theorem s_attempt_mark (hK : G w0 (ob AttR b (attMark x) :: M) (K (.tuple #[]))) : G w0 (ob AttR b x :: M) (CP Tryz.prog Fn.attempt_Attempt_Writing [ptr b 0] (fun x6 => condP x6 (nilW (ptr b 0) (fun x7 => addW 18 x7 (fun x8 => load1W x8 (fun x9 => CP Tryz.prog Fn.commit_Commit_Stamp [x9] (fun x10 => nilW (ptr b 0) (fun x11 => addW 21 x11 (fun x12 => storeW 1 x12 x10 (fun _ => K (.tuple #[]))))))))) (K (.tuple #[])))) := by
 refine s_attempt_Writing (x := x) ?_
 unfold attMark at hK
 cases hw : x.wr
 ·rw [if_neg (by rw [hw]; decide)] at hK
  refine gr ?_
  exact hK
 ·rw [if_pos hw] at hK
  have hi : x.inn.wr = true := by
   unfold AttS.wr at hw
   simp only [Bool.and_eq_true] at hw
   exact hw.2
  cases hx : x.inn with
  | none => rw [hx] at hi; cases hi
  | fetch f => rw [hx] at hi; cases hi
  | ext f => rw [hx] at hi; cases hi
  | com m =>
   simp only [hx] at hK
   rw [AttR_open]
   intro iv vf ve vc pr pv pq
   refine G.take1 InnR (iv, vf, ve, vc) ?_
   rw [hx, Inn_com]
   rintro p ⟨e1, e3⟩
   subst e1 e3
   refine gr ?_
   refine s_commit_Commit_Stamp (x := m) ?_
   refine gr ?_
   refine Att_com (p := p) (f := m) b { x with stamp := Inn.stamp (.com m) } vf ve pr pv pq hx ?_
   have e : ({ x with stamp := Inn.stamp (.com m) } : AttS) = { me := x.me, s := x.s, run := x.run, v := x.v, rd := x.rd, state := x.state, inn := .com m, begun := x.begun, beg := x.beg, stamp := Inn.stamp (.com m), fin := x.fin, by_ := x.by_, err := x.err, blocking := x.blocking } := by rw [hx]
   rw [e]
   exact hK
theorem s_attempt_told (ho : ToldOk x) [i : SelOb L AttR b x C] (hK : G w0 (C (ob AttR b (attTold x))) (K (.tuple #[]))) : G w0 L (CP Tryz.prog Fn.attempt_Attempt_told [ptr b 0] K) := by
 refine i.use (fun M hK => ?_) hK
 refine C_attempt_Attempt_told ?_
 unfold S_attempt_Attempt_told
 rw [AttR_open]
 intro iv vf ve vc pr pv pq
 repeat' (first | (with_reducible refine G.joini0 ?_) | (with_reducible refine G.joini1 ?_) | (with_reducible refine G.drew ?_) | (simp (maxSteps := 2000000) only [↓RG, RP, RB, BEq.rfl, Int.reduceEq, Int.reduceLT, Int.reduceLE, Nat.reduceEqDiff]))
 refine G.take1 InnR (iv, vf, ve, vc) ?_
 refine inv_End ho.ok ?_
 unfold attTold at hK
 by_cases h0 : x.inn.fin = 0
 ·rw [if_pos h0] at hK
  repeat' (first | (with_reducible refine G.joini0 ?_) | (with_reducible refine G.joini1 ?_) | (with_reducible refine G.drew ?_) | (simp (maxSteps := 2000000) only [↓RG, RP, RB, BEq.rfl, Int.reduceEq, Int.reduceLT, Int.reduceLE, Nat.reduceEqDiff, h0]))
  refine AttR_close b x iv vf ve vc pr pv pq ?_
  refine s_attempt_mark (x := x) ?_
  exact hK
 ·rw [if_neg h0] at hK
  by_cases h5 : x.inn.fin = 5
  ·rw [if_pos h5] at hK
   repeat' (first | (with_reducible refine G.joini0 ?_) | (with_reducible refine G.joini1 ?_) | (with_reducible refine G.drew ?_) | (simp (maxSteps := 2000000) only [↓RG, RP, RB, BEq.rfl, Int.reduceEq, Int.reduceLT, Int.reduceLE, Nat.reduceEqDiff, h0, h5]))
   refine inv_By ho.ok ?_
   repeat' (first | (with_reducible refine G.joini0 ?_) | (with_reducible refine G.joini1 ?_) | (with_reducible refine G.drew ?_) | (simp (maxSteps := 2000000) only [↓RG, RP, RB, BEq.rfl, Int.reduceEq, Int.reduceLT, Int.reduceLE, Nat.reduceEqDiff]))
   refine AttR_close b x iv vf ve vc pr pv pq ?_
   refine s_attempt_out (x := x) ?_
   repeat' (first | (with_reducible refine G.joini0 ?_) | (with_reducible refine G.joini1 ?_) | (with_reducible refine G.drew ?_) | (simp (maxSteps := 2000000) only [↓RG, RP, RB, BEq.rfl, Int.reduceEq, Int.reduceLT, Int.reduceLE, Nat.reduceEqDiff]))
   refine s_attempt_mark (x := attOut x 5 0 x.inn.by_) ?_
   exact hK
  ·rw [if_neg h5] at hK
   repeat' (first | (with_reducible refine G.joini0 ?_) | (with_reducible refine G.joini1 ?_) | (with_reducible refine G.drew ?_) | (simp (maxSteps := 2000000) only [↓RG, RP, RB, BEq.rfl, Int.reduceEq, Int.reduceLT, Int.reduceLE, Nat.reduceEqDiff, h0, h5]))
   refine AttR_close b x iv vf ve vc pr pv pq ?_
   refine s_attempt_ended (x := x) ho h0 h5 ?_
   repeat' (first | (with_reducible refine G.joini0 ?_) | (with_reducible refine G.joini1 ?_) | (with_reducible refine G.drew ?_) | (simp (maxSteps := 2000000) only [↓RG, RP, RB, BEq.rfl, Int.reduceEq, Int.reduceLT, Int.reduceLE, Nat.reduceEqDiff]))
   refine s_attempt_mark (x := attEnded x) ?_
   exact hK
structure TellOk (x : AttS) (a : TAns) : Prop where
 err : a.err = 0
 work : x.state = 2 → WorkOk x
 inn : x.state ≠ 0 → x.state ≠ 1 → x.state ≠ 2 → x.state ≠ 7 → x.state ≠ 8 → x.inn.ok ∧ ToldOk { x with inn := x.inn.tell a }
theorem s_attempt_Tell {a : TAns} (ho : TellOk x a) [i : SelOb L AttR b x C] (hK : G w0 (C (ob AttR b (attTell x a))) (K (.tuple #[]))) : G w0 L (CP Tryz.prog Fn.attempt_Attempt_Tell [ptr b 0, .agg (TAns.cells a).toArray] K) := by
 refine i.use (fun M hK => ?_) hK
 refine C_attempt_Attempt_Tell ?_
 unfold S_attempt_Attempt_Tell
 refine G.box fun q => ?_
 rw [G_swap, AttR_open]
 intro iv vf ve vc pr pv pq
 unfold attTell at hK
 have he := ho.err
 by_cases s8 : x.state = 8
 ·rw [if_pos s8, AttR_open] at hK
  repeat' (first | (with_reducible refine G.joini0 ?_) | (with_reducible refine G.joini1 ?_) | (with_reducible refine G.drew ?_) | (simp (maxSteps := 2000000) only [↓RG, RP, RB, BEq.rfl, Int.reduceEq, Int.reduceLT, Int.reduceLE, Nat.reduceEqDiff, eq_true s8]))
  exact (hK iv vf ve vc pr pv pq).sub
 rw [if_neg s8] at hK
 by_cases s0 : x.state = 0
 ·rw [if_pos s0, AttR_open] at hK
  repeat' (first | (with_reducible refine G.joini0 ?_) | (with_reducible refine G.joini1 ?_) | (with_reducible refine G.drew ?_) | (simp (maxSteps := 2000000) only [↓RG, RP, RB, BEq.rfl, Int.reduceEq, Int.reduceLT, Int.reduceLE, Nat.reduceEqDiff, s8, eq_true s0, eq_true he]))
  exact (hK iv vf ve vc pr pv pq).sub
 rw [if_neg s0] at hK
 by_cases s1 : x.state = 1
 ·rw [if_pos s1, AttR_open] at hK
  repeat' (first | (with_reducible refine G.joini0 ?_) | (with_reducible refine G.joini1 ?_) | (with_reducible refine G.drew ?_) | (simp (maxSteps := 2000000) only [↓RG, RP, RB, BEq.rfl, Int.reduceEq, Int.reduceLT, Int.reduceLE, Nat.reduceEqDiff, s8, s0, eq_true s1, eq_true he]))
  exact (hK iv vf ve vc pr pv pq).sub
 rw [if_neg s1] at hK
 by_cases s2 : x.state = 2
 ·rw [if_pos s2] at hK
  have g1 := ho.work s2
  repeat' (first | (with_reducible refine G.joini0 ?_) | (with_reducible refine G.joini1 ?_) | (with_reducible refine G.drew ?_) | (simp (maxSteps := 2000000) only [↓RG, RP, RB, BEq.rfl, Int.reduceEq, Int.reduceLT, Int.reduceLE, Nat.reduceEqDiff, s8, s0, s1, eq_true s2, eq_true he]))
  refine AttR_close b x iv vf ve vc pr pv pq ?_
  refine s_attempt_work (x := x) g1 ?_
  repeat' (first | (with_reducible refine G.joini0 ?_) | (with_reducible refine G.joini1 ?_) | (with_reducible refine G.drew ?_) | (simp (maxSteps := 2000000) only [↓RG, RP, RB, BEq.rfl, Int.reduceEq, Int.reduceLT, Int.reduceLE, Nat.reduceEqDiff]))
  exact hK.sub
 rw [if_neg s2] at hK
 by_cases s7 : x.state = 7
 ·rw [if_pos s7, AttR_open] at hK
  repeat' (first | (with_reducible refine G.joini0 ?_) | (with_reducible refine G.joini1 ?_) | (with_reducible refine G.drew ?_) | (simp (maxSteps := 2000000) only [↓RG, RP, RB, BEq.rfl, Int.reduceEq, Int.reduceLT, Int.reduceLE, Nat.reduceEqDiff, s8, s0, s1, s2, eq_true s7, eq_true he]))
  exact (hK iv vf ve vc pr pv pq).sub
 rw [if_neg s7] at hK
 obtain ⟨g1, g2⟩ := ho.inn s0 s1 s2 s7 s8
 repeat' (first | (with_reducible refine G.joini0 ?_) | (with_reducible refine G.joini1 ?_) | (with_reducible refine G.drew ?_) | (simp (maxSteps := 2000000) only [↓RG, RP, RB, BEq.rfl, Int.reduceEq, Int.reduceLT, Int.reduceLE, Nat.reduceEqDiff, s8, s0, s1, s2, s7, eq_true he]))
 refine G.take1 InnR (iv, vf, ve, vc) ?_
 refine inv_Tell g1 ?_
 repeat' (first | (with_reducible refine G.joini0 ?_) | (with_reducible refine G.joini1 ?_) | (with_reducible refine G.drew ?_) | (simp (maxSteps := 2000000) only [↓RG, RP, RB, BEq.rfl, Int.reduceEq, Int.reduceLT, Int.reduceLE, Nat.reduceEqDiff]))
 refine AttR_close b { x with inn := x.inn.tell a } iv vf ve vc pr pv pq ?_
 refine s_attempt_told (x := { x with inn := x.inn.tell a }) g2 ?_
 repeat' (first | (with_reducible refine G.joini0 ?_) | (with_reducible refine G.joini1 ?_) | (with_reducible refine G.drew ?_) | (simp (maxSteps := 2000000) only [↓RG, RP, RB, BEq.rfl, Int.reduceEq, Int.reduceLT, Int.reduceLE, Nat.reduceEqDiff]))
 exact hK.sub
theorem s_attempt_Next (ho : x.state ≠ 0 → x.state ≠ 1 → x.state ≠ 2 → x.state ≠ 7 → x.state ≠ 8 → x.inn.ok) [i : SelOb L AttR b x C] (hK : G w0 L (K (.tuple #[.agg (TOp.cells (attNext x).1).toArray, .bool (attNext x).2]))) : G w0 L (CP Tryz.prog Fn.attempt_Attempt_Next [ptr b 0] K) := by
 refine i.ro (fun M hK => ?_) hK
 refine C_attempt_Attempt_Next ?_
 unfold S_attempt_Attempt_Next
 refine G.new fun q => ?_
 rw [G_swap]
 rw [AttR_open] at *
 intro iv vf ve vc pr pv pq
 have hK := hK iv vf ve vc pr pv pq
 unfold attNext at hK
 by_cases s0 : x.state = 0
 ·rw [if_pos s0] at hK
  refine gf (eq_true s0) ?_
  exact hK.sub
 rw [if_neg s0] at hK
 by_cases s1 : x.state = 1
 ·rw [if_pos s1] at hK
  refine gf (an s0 (eq_true s1)) ?_
  exact hK.sub
 rw [if_neg s1] at hK
 by_cases s2 : x.state = 2
 ·rw [if_pos s2] at hK
  repeat' (first | (with_reducible refine G.joini0 ?_) | (with_reducible refine G.joini1 ?_) | (with_reducible refine G.drew ?_) | (simp (maxSteps := 2000000) only [↓RG, RP, RB, BEq.rfl, Int.reduceEq, Int.reduceLT, Int.reduceLE, Nat.reduceEqDiff, s0, s1, eq_true s2]))
  exact hK.sub
 rw [if_neg s2] at hK
 by_cases s7 : x.state = 7
 ·rw [if_pos s7] at hK
  refine gf (an s0 (an s1 (an s2 (eq_true s7)))) ?_
  exact hK.sub
 rw [if_neg s7] at hK
 by_cases s8 : x.state = 8
 ·rw [if_pos s8] at hK
  refine gf (an s0 (an s1 (an s2 (an s7 (eq_true s8))))) ?_
  exact hK.sub
 rw [if_neg s8] at hK
 refine gf (an s0 (an s1 (an s2 (an s7 s8)))) ?_
 refine G.take1 InnR (iv, vf, ve, vc) ?_
 refine inv_Next (ho s0 s1 s2 s7 s8) ?_
 refine gg ?_
 exact hK.sub
end
end Go.Proofs.YtoealglbimbbmaaGreatDoor.S
