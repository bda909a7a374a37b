import Derived.Test.YtoealglbimbbmaaGreatDoorGInt
namespace Go.Proofs.YtoealglbimbbmaaGreatDoor.S
open Go Go.Proofs
set_option linter.unusedVariables false
set_option linter.unusedSimpArgs false
def takesP (a b : Int) : List TIns := [⟨17, 0, 0, 0, 0⟩, ⟨8, 0, 7, a, 0⟩, ⟨1, 1, 0, 0, 1⟩, ⟨9, 7, 6, a, 0⟩, ⟨13, 0, 0, 6, 0⟩, ⟨12, 0, 0, 7, 0⟩, ⟨20, 0, 0, 0, 0⟩, ⟨18, 0, 0, 0, 0⟩, ⟨8, 0, 7, b, 0⟩, ⟨1, 1, 0, 0, 2⟩, ⟨9, 7, 6, b, 0⟩, ⟨13, 0, 0, 13, 0⟩, ⟨12, 0, 0, 14, 0⟩, ⟨20, 0, 0, 0, 0⟩, ⟨19, 0, 0, 0, 0⟩, ⟨21, 1, 0, 0, 0⟩]
def putsP (c : Int) : List TIns := [⟨1, 0, 0, 0, 1⟩, ⟨9, 7, 0, c, 0⟩]
def takesM : List Int := [7, -1, -1, -1, -1, -1, -1, 14, -1, -1, -1, -1, -1, -1, -1, -1]
abbrev reg2 (x y : Int) : Regs := ⟨x, y, 0, 0, 0, 0, 0, 0⟩
section
variable {n : Nat} {x z : IntG} {s t : VwS} {R : IntG × VwS × Int}
def Runs (n : Nat) (x : IntG) (s : VwS) (R : IntG × VwS × Int) : Prop := RunOk n x s ∧ iRun n x s = R
structure Sound (x : IntG) (s : VwS) : Prop where
 f : x.fin = 0
 b : x.bad = 0
 l : 0 < x.left ∧ x.left ≤ 1000
 len : x.prog.length ≤ 100000
 pos : 0 ≤ x.pos ∧ x.pos < x.prog.length ∧ x.pos < x.mt.length
 regs : ∀ k, 0 ≤ x.r.get k
 few : x.items.length ≤ 16
 op : x.op.length ≤ 1000
 parts : PartsOk x x.op
 mt : MtOk x.mt
 frees : s.l.frees.length ≤ 1000000
structure InsOk (i : TIns) : Prop where
 a : 0 ≤ i.a
 b : 0 ≤ i.b
 c : 0 ≤ i.c
 c2 : i.c ≤ 1000
 op : i.op ≠ 10 ∧ i.op ≠ 11 ∧ i.op ≠ 23
theorem Sound.ok (h : Sound x s) (hi : InsOk x.ins) (hn : (x.ins.op = 15 ∨ x.ins.op = 16 ∨ x.ins.op = 18 ∨ x.ins.op = 19) → x.op ≠ []) (hl : 0 ≤ (iStep x s).1.left ∧ (iStep x s).1.left ≤ 1000) : StepOk x s :=
 ⟨h.len, h.pos.1, h.pos.2.1, ⟨hi.a, hi.b, hi.c, hi.c2, hi.op, h.regs, h.few, ⟨h.op, by have := h.few; show x.items.length ≤ _; omega, h.parts, h.mt, h.frees, hn, fun _ => ⟨h.pos.1, h.pos.2.2⟩⟩⟩, hl⟩
structure InsIs (x : IntG) (i : TIns) : Prop where
 is : x.ins = i
 a : 0 ≤ i.a
 b : 0 ≤ i.b
 c : 0 ≤ i.c ∧ i.c ≤ 1000
 op : i.op ≠ 10 ∧ i.op ≠ 11 ∧ i.op ≠ 23
 ne : x.op = [] → i.op ≠ 15 ∧ i.op ≠ 16 ∧ i.op ≠ 18 ∧ i.op ≠ 19
theorem InsIs.ok {i : TIns} (h : InsIs x i) : InsOk x.ins := by rw [h.is]; exact ⟨h.a, h.b, h.c.1, h.c.2, h.op⟩
theorem InsIs.nn {i : TIns} (h : InsIs x i) : (x.ins.op = 15 ∨ x.ins.op = 16 ∨ x.ins.op = 18 ∨ x.ins.op = 19) → x.op ≠ [] := fun g e => by have := h.ne e; rw [h.is] at g; omega
theorem Runs.step {i : TIns} (h : Sound x s) (hi : InsIs x i) (e : iDo { x with next := x.pos + 1 } s i = (z, t, 0)) (hl : z.left = x.left) (H : Runs n z.on t R) : Runs (n + 1) x s R := by
 have e : iStep x s = (z, t, 0) := by unfold iStep; rw [hi.is]; exact e
 have hn := hi.nn
 have hi := hi.ok
 have hl2 : 0 ≤ (iStep x s).1.left ∧ (iStep x s).1.left ≤ 1000 := by rw [e]; have := h.l; simp only; omega
 have hp := h.pos
 have hL := h.l
 refine ⟨.inr (.inr (.inr (.inr ⟨h.ok hi hn hl2, fun _ => by rw [e]; exact H.1⟩))), ?_⟩
 rw [iRun, if_neg (fun g => g h.f), if_neg (fun g => g h.b), if_neg (by omega), if_neg (by omega), e, if_pos rfl]
 exact H.2
theorem Runs.needs {i : TIns} (h : Sound x s) (hi : InsIs x i) (e : iDo { x with next := x.pos + 1 } s i = (z, t, 11)) (hl : z.left = x.left) : Runs (n + 1) x s (z, t, 1) := by
 have e : iStep x s = (z, t, 11) := by unfold iStep; rw [hi.is]; exact e
 have hn := hi.nn
 have hi := hi.ok
 have hl2 : 0 ≤ (iStep x s).1.left ∧ (iStep x s).1.left ≤ 1000 := by rw [e]; have := h.l; simp only; omega
 have hp := h.pos
 have hL := h.l
 refine ⟨.inr (.inr (.inr (.inr ⟨h.ok hi hn hl2, fun g => by rw [e] at g; cases g⟩))), ?_⟩
 rw [iRun, if_neg (fun g => g h.f), if_neg (fun g => g h.b), if_neg (by omega), if_neg (by omega), e, if_neg (by show ¬ (11 : Int) = 0; decide), if_pos rfl]
theorem Runs.done (f : x.fin = 0) (hb : x.bad = 0) (hp : x.pos = x.prog.length) : Runs (n + 1) x s ({ x with fin := 2 }, s, 2) :=
 ⟨.inr (.inr (.inl hp)), by rw [iRun, if_neg (fun g => g f), if_neg (fun g => g hb), if_pos hp]⟩
theorem Runs.fin (f : x.fin ≠ 0) : Runs n x s (x, s, x.fin) := ⟨RunOk_fin f, iRun_fin f⟩
end
abbrev tkV (W : Nat) (wr : Int) (k : List TCell) (need : Int) : VwS := ⟨W, k, ⟨wr, ⟨[], []⟩, []⟩, need⟩
abbrev tkO (W : Nat) (wr : Int) (k : List TCell) (need : Int) : VwS := ⟨W, k, ⟨wr, ⟨[], []⟩, [⟨[], []⟩]⟩, need⟩
abbrev tkW (W : Nat) (wr : Int) (k : List TCell) (need : Int) (c : TCell) : VwS := ⟨W, k, ⟨wr, ⟨[c], []⟩, []⟩, need⟩
abbrev tk0 (a b f : Int) : IntG := ⟨takesP a b, takesM, 0, 0, 0, reg2 0 0, [], 0, 0, f, []⟩
abbrev tk1 (a b f : Int) : IntG := ⟨takesP a b, takesM, 0, 0, 0, reg2 0 0, [], 1, 2, f - 1, [⟨17, 0, reg2 0 0, 0⟩]⟩
theorem tk_mt : MtOk takesM := by unfold MtOk takesM; decide
theorem tk_len {a b : Int} : (takesP a b).length = 16 := rfl
theorem reg2_get {x y : Int} (hx : 0 ≤ x) (hy : 0 ≤ y) (k : Nat) : 0 ≤ (reg2 x y).get k := by
 unfold Regs.get; split <;> simp <;> assumption
theorem do_load {i : TIns} {x : IntG} {s t : VwS} {c w : Int} (h8 : i.op = 8) (h7 : x.r.get (m8 i.b) = 0) (hc : i.c = c) (h1 : 6 ≤ c) (h2 : c ≤ 15) (hr : vRead s c = (t, w, 0)) : iDo x s i = (setR x (m8 i.a) w, t, 0) := by
 have hp : iPlace 0 c = (c, 0) := by unfold iPlace; rw [if_neg (by omega)]; simp
 unfold iDo iTouch
 simp only [h8, h7, hc, hp, hr]
 rfl
theorem do_loadN {i : TIns} {x : IntG} {s t : VwS} {c w : Int} (h8 : i.op = 8) (h7 : x.r.get (m8 i.b) = 0) (hc : i.c = c) (h1 : 6 ≤ c) (h2 : c ≤ 15) (hr : vRead s c = (t, w, 11)) : iDo x s i = (x, t, 11) := by
 have hp : iPlace 0 c = (c, 0) := by unfold iPlace; rw [if_neg (by omega)]; simp
 unfold iDo iTouch
 simp only [h8, h7, hc, hp, hr]
 rfl
theorem do_store {i : TIns} {x : IntG} {s t : VwS} {c y : Int} (h9 : i.op = 9) (h7 : x.r.get (m8 i.a) = 0) (hy : x.r.get (m8 i.b) = y) (hc : i.c = c) (h1 : 6 ≤ c) (h2 : c ≤ 15) (hr : vWrite s c y = (t, 0)) : iDo x s i = (x, t, 0) := by
 have hp : iPlace 0 c = (c, 0) := by unfold iPlace; rw [if_neg (by omega)]; simp
 unfold iDo iTouch
 simp only [h9, h7, hy, hc, hp, hr]
 rfl
section
variable {a b c f wr w : Int} {W n : Nat} {k : List TCell} {m : Int}
theorem tkO_isV (hW : 32 ≤ W) (ha : 6 ≤ a ∧ a ≤ 15) : isV (tkO W wr k m) a = true := by unfold isV; simp; omega
theorem tkO_need (hW : 32 ≤ W) (ha : 6 ≤ a ∧ a ≤ 15) (hk : lookC k a = none) : vRead (tkO W wr k m) a = (tkO W wr k a, 0, 11) := by unfold vRead; rw [tkO_isV hW ha]; simp [lookR, lookC, hk]
theorem tkO_read (hW : 32 ≤ W) (ha : 6 ≤ a ∧ a ≤ 15) (hk : lookC k a = some w) : vRead (tkO W wr k m) a = (tkO W wr k m, w, 0) := by unfold vRead; rw [tkO_isV hW ha]; simp [lookR, lookC, hk]
abbrev tkS (a b x y : Int) (items : List Int) (pos next left : Int) (op : List PartS) : IntG := ⟨takesP a b, takesM, 0, 0, 0, reg2 x y, items, pos, next, left, op⟩
theorem tk_sound {x y pos next left : Int} {items : List Int} {op : List PartS} {s : VwS} (hx : 0 ≤ x) (hy : 0 ≤ y) (hp : 0 ≤ pos ∧ pos < 16) (hl : 0 < left ∧ left ≤ 1000) (hi : items.length ≤ 16) (ho : op.length ≤ 1) (ho2 : ∀ q ∈ op, q.told = 0 ∧ 0 ≤ q.at_ ∧ q.at_ < 16) (hs : s.l.frees = []) : Sound (tkS a b x y items pos next left op) s :=
 ⟨rfl, rfl, hl, by simp [tk_len], by simp [tk_len, takesM]; omega, reg2_get hx hy, hi, by show op.length ≤ 1000; omega, by intro q hq; have := ho2 q hq; simp [takesM]; omega, tk_mt, by rw [hs]; exact Nat.zero_le _⟩
abbrev p17 : PartS := ⟨17, 0, reg2 0 0, 0⟩
abbrev p18 : PartS := ⟨18, 7, reg2 0 0, 0⟩
theorem p17_ok : ∀ q ∈ [p17], q.told = 0 ∧ 0 ≤ q.at_ ∧ q.at_ < 16 := by simp
theorem p18_ok : ∀ q ∈ [p18], q.told = 0 ∧ 0 ≤ q.at_ ∧ q.at_ < 16 := by simp
theorem tkO_write (hW : 32 ≤ W) (ha : 6 ≤ a ∧ a ≤ 15) (hwr : 1 ≤ wr) : vWrite (tkO W wr k m) a w = (⟨W, k, ⟨wr, ⟨[⟨a, w⟩], []⟩, [⟨[], []⟩]⟩, m⟩, 0) := by
 have h4 : okAt a = true := by unfold okAt; simp; omega
 unfold vWrite
 rw [tkO_isV hW ha]
 simp [lErr, h4, idxC, LvS.room, totalC, LvS.put, putC]
 omega
theorem run_tk0 (hf : 20 ≤ f) (hf2 : f ≤ 400) (hW : 32 ≤ W) (ha : 6 ≤ a ∧ a ≤ 15) : Runs (n + 2) (tk0 a b f) (tkV W wr [] 0) (tkS a b 0 0 [] 1 2 (f - 1) [p17], tkO W wr [] a, 1) := by
 refine Runs.step (i := ⟨17, 0, 0, 0, 0⟩) (z := tkS a b 0 0 [] 0 1 f [p17]) (t := tkO W wr [] 0) (tk_sound (by decide) (by decide) (by decide) (by omega) (by decide) (by decide) (by simp) rfl) ⟨rfl, by simp, by simp, by simp, by simp, by simp⟩ rfl rfl ?_
 refine Runs.needs (i := ⟨8, 0, 7, a, 0⟩) (z := tkS a b 0 0 [] 1 2 (f - 1) [p17]) (t := tkO W wr [] a) (tk_sound (by decide) (by decide) (by simp) (by simp only; omega) (by simp) (by simp) p17_ok rfl) ⟨rfl, by simp, by simp, by simp only; omega, by simp, by simp⟩ ?_ rfl
 exact do_loadN rfl rfl rfl ha.1 ha.2 (tkO_need hW ha rfl)
theorem run_tkA {nx : Int} (hf : 20 ≤ f) (hf2 : f ≤ 400) (hW : 32 ≤ W) (ha : 6 ≤ a ∧ a ≤ 15) (hwr : 1 ≤ wr) (hw : 0 < w) : Runs (n + 9) (tkS a b 0 0 [] 1 nx (f - 1) [p17]) (tkO W wr [⟨a, w⟩] m) ({ tkS a b w 1 [1] 16 16 (f - 8) [] with fin := 2 }, tkW W wr [⟨a, w⟩] m ⟨a, 0⟩, 2) := by
 refine Runs.step (i := ⟨8, 0, 7, a, 0⟩) (z := tkS a b w 0 [] 1 2 (f - 1) [p17]) (t := tkO W wr [⟨a, w⟩] m) (tk_sound (by decide) (by decide) (by decide) (by omega) (by decide) (by decide) p17_ok rfl) ⟨rfl, by simp, by simp, by simp only; omega, by simp, by simp⟩ (do_load rfl rfl rfl ha.1 ha.2 (tkO_read hW ha (by simp [lookC]))) rfl ?_
 refine Runs.step (i := ⟨1, 1, 0, 0, 1⟩) (z := tkS a b w 1 [] 2 3 (f - 1 - 1) [p17]) (t := tkO W wr [⟨a, w⟩] m) (tk_sound (by omega) (by decide) (by simp) (by simp only; omega) (by simp) (by simp) p17_ok rfl) ⟨rfl, by simp, by simp, by simp, by simp, by simp⟩ rfl rfl ?_
 refine Runs.step (i := ⟨9, 7, 6, a, 0⟩) (z := tkS a b w 1 [] 3 4 (f - 1 - 1 - 1) [p17]) (t := ⟨W, [⟨a, w⟩], ⟨wr, ⟨[⟨a, 0⟩], []⟩, [⟨[], []⟩]⟩, m⟩) (tk_sound (by omega) (by decide) (by simp) (by simp only; omega) (by simp) (by simp) p17_ok rfl) ⟨rfl, by simp, by simp, by simp only; omega, by simp, by simp⟩ (do_store rfl rfl rfl rfl ha.1 ha.2 (tkO_write hW ha hwr)) rfl ?_
 refine Runs.step (i := ⟨13, 0, 0, 6, 0⟩) (z := tkS a b w 1 [] 4 5 (f - 1 - 1 - 1 - 1) [p17]) (t := ⟨W, [⟨a, w⟩], ⟨wr, ⟨[⟨a, 0⟩], []⟩, [⟨[], []⟩]⟩, m⟩) (tk_sound (by omega) (by decide) (by simp) (by simp only; omega) (by simp) (by simp) p17_ok rfl) ⟨rfl, by simp, by simp, by simp, by simp, by simp⟩ (by
  show ((if w = 0 then _ else _), _, _) = _
  rw [if_neg (by omega)]; rfl) rfl ?_
 refine Runs.step (i := ⟨12, 0, 0, 7, 0⟩) (z := tkS a b w 1 [] 5 7 (f - 1 - 1 - 1 - 1 - 1) [p17]) (t := ⟨W, [⟨a, w⟩], ⟨wr, ⟨[⟨a, 0⟩], []⟩, [⟨[], []⟩]⟩, m⟩) (tk_sound (by omega) (by decide) (by simp) (by simp only; omega) (by simp) (by simp) p17_ok rfl) ⟨rfl, by simp, by simp, by simp, by simp, by simp⟩ rfl rfl ?_
 refine Runs.step (i := ⟨18, 0, 0, 0, 0⟩) (z := tkS a b w 1 [] 7 15 (f - 1 - 1 - 1 - 1 - 1 - 1) []) (t := tkW W wr [⟨a, w⟩] m ⟨a, 0⟩) (tk_sound (by omega) (by decide) (by simp) (by simp only; omega) (by simp) (by simp) p17_ok rfl) ⟨rfl, by simp, by simp, by simp, by simp, by simp⟩ rfl rfl ?_
 refine Runs.step (i := ⟨21, 1, 0, 0, 0⟩) (z := tkS a b w 1 [1] 15 16 (f - 1 - 1 - 1 - 1 - 1 - 1 - 1) []) (t := tkW W wr [⟨a, w⟩] m ⟨a, 0⟩) (tk_sound (by omega) (by decide) (by simp) (by simp only; omega) (by simp) (by simp) (by simp) rfl) ⟨rfl, by simp, by simp, by simp, by simp, by simp⟩ rfl rfl ?_
 have := Runs.done (n := n + 1) (x := tkS a b w 1 [1] 16 16 (f - 1 - 1 - 1 - 1 - 1 - 1 - 1 - 1) []) (s := tkW W wr [⟨a, w⟩] m ⟨a, 0⟩) rfl rfl rfl
 rw [show f - 1 - 1 - 1 - 1 - 1 - 1 - 1 - 1 = f - 8 by omega] at this
 show Runs (n + 2) (tkS a b w 1 [1] 16 16 (f - 1 - 1 - 1 - 1 - 1 - 1 - 1 - 1) []) _ _
 rw [show f - 1 - 1 - 1 - 1 - 1 - 1 - 1 - 1 = f - 8 by omega]
 exact this
theorem run_tkB {nx : Int} (hf : 20 ≤ f) (hf2 : f ≤ 400) (hW : 32 ≤ W) (ha : 6 ≤ a ∧ a ≤ 15) (hb : 6 ≤ b ∧ b ≤ 15) (hab : a ≠ b) (hwr : 1 ≤ wr) : Runs (n + 6) (tkS a b 0 0 [] 1 nx (f - 1) [p17]) (tkO W wr [⟨a, 0⟩] m) (tkS a b 0 0 [] 8 9 (f - 6) [p18], tkO W wr [⟨a, 0⟩] b, 1) := by
 refine Runs.step (i := ⟨8, 0, 7, a, 0⟩) (z := tkS a b 0 0 [] 1 2 (f - 1) [p17]) (t := tkO W wr [⟨a, 0⟩] m) (tk_sound (by decide) (by decide) (by decide) (by omega) (by decide) (by decide) p17_ok rfl) ⟨rfl, by simp, by simp, by simp only; omega, by simp, by simp⟩ (do_load rfl rfl rfl ha.1 ha.2 (tkO_read hW ha (by simp [lookC]))) rfl ?_
 refine Runs.step (i := ⟨1, 1, 0, 0, 1⟩) (z := tkS a b 0 1 [] 2 3 (f - 1 - 1) [p17]) (t := tkO W wr [⟨a, 0⟩] m) (tk_sound (by omega) (by decide) (by simp) (by simp only; omega) (by simp) (by simp) p17_ok rfl) ⟨rfl, by simp, by simp, by simp, by simp, by simp⟩ rfl rfl ?_
 refine Runs.step (i := ⟨9, 7, 6, a, 0⟩) (z := tkS a b 0 1 [] 3 4 (f - 1 - 1 - 1) [p17]) (t := ⟨W, [⟨a, 0⟩], ⟨wr, ⟨[⟨a, 0⟩], []⟩, [⟨[], []⟩]⟩, m⟩) (tk_sound (by omega) (by decide) (by simp) (by simp only; omega) (by simp) (by simp) p17_ok rfl) ⟨rfl, by simp, by simp, by simp only; omega, by simp, by simp⟩ (do_store rfl rfl rfl rfl ha.1 ha.2 (tkO_write hW ha hwr)) rfl ?_
 refine Runs.step (i := ⟨13, 0, 0, 6, 0⟩) (z := tkS a b 0 1 [] 4 6 (f - 1 - 1 - 1 - 1) [p17]) (t := ⟨W, [⟨a, 0⟩], ⟨wr, ⟨[⟨a, 0⟩], []⟩, [⟨[], []⟩]⟩, m⟩) (tk_sound (by omega) (by decide) (by simp) (by simp only; omega) (by simp) (by simp) p17_ok rfl) ⟨rfl, by simp, by simp, by simp, by simp, by simp⟩ rfl rfl ?_
 refine Runs.step (i := ⟨20, 0, 0, 0, 0⟩) (z := tkS a b 0 0 [] 6 8 (f - 1 - 1 - 1 - 1 - 1) [p18]) (t := tkO W wr [⟨a, 0⟩] m) (tk_sound (by omega) (by decide) (by simp) (by simp only; omega) (by simp) (by simp) p17_ok rfl) ⟨rfl, by simp, by simp, by simp, by simp, by simp⟩ rfl rfl ?_
 have e : f - 1 - 1 - 1 - 1 - 1 - 1 = f - 6 := by omega
 show Runs (n + 1) (tkS a b 0 0 [] 8 8 (f - 1 - 1 - 1 - 1 - 1 - 1) [p18]) _ _
 rw [e]
 refine Runs.needs (i := ⟨8, 0, 7, b, 0⟩) (z := tkS a b 0 0 [] 8 9 (f - 6) [p18]) (t := tkO W wr [⟨a, 0⟩] b) (tk_sound (by decide) (by decide) (by decide) (by omega) (by decide) (by decide) p18_ok rfl) ⟨rfl, by simp, by simp, by simp only; omega, by simp, by simp⟩ ?_ rfl
 exact do_loadN rfl rfl rfl hb.1 hb.2 (tkO_need hW hb (by simp [lookC, hab]))
theorem run_tkC {nx : Int} (hf : 20 ≤ f) (hf2 : f ≤ 400) (hW : 32 ≤ W) (hb : 6 ≤ b ∧ b ≤ 15) (hab : a ≠ b) (hwr : 1 ≤ wr) (hw : 0 < w) : Runs (n + 9) (tkS a b 0 0 [] 8 nx (f - 6) [p18]) (tkO W wr [⟨a, 0⟩, ⟨b, w⟩] m) ({ tkS a b w 2 [2] 16 16 (f - 13) [] with fin := 2 }, tkW W wr [⟨a, 0⟩, ⟨b, w⟩] m ⟨b, 0⟩, 2) := by
 refine Runs.step (i := ⟨8, 0, 7, b, 0⟩) (z := tkS a b w 0 [] 8 9 (f - 6) [p18]) (t := tkO W wr [⟨a, 0⟩, ⟨b, w⟩] m) (tk_sound (by decide) (by decide) (by decide) (by omega) (by decide) (by decide) p18_ok rfl) ⟨rfl, by simp, by simp, by simp only; omega, by simp, by simp⟩ (do_load rfl rfl rfl hb.1 hb.2 (tkO_read hW hb (by simp [lookC, hab]))) rfl ?_
 refine Runs.step (i := ⟨1, 1, 0, 0, 2⟩) (z := tkS a b w 2 [] 9 10 (f - 6 - 1) [p18]) (t := tkO W wr [⟨a, 0⟩, ⟨b, w⟩] m) (tk_sound (by omega) (by decide) (by simp) (by simp only; omega) (by simp) (by simp) p18_ok rfl) ⟨rfl, by simp, by simp, by simp, by simp, by simp⟩ rfl rfl ?_
 refine Runs.step (i := ⟨9, 7, 6, b, 0⟩) (z := tkS a b w 2 [] 10 11 (f - 6 - 1 - 1) [p18]) (t := ⟨W, [⟨a, 0⟩, ⟨b, w⟩], ⟨wr, ⟨[⟨b, 0⟩], []⟩, [⟨[], []⟩]⟩, m⟩) (tk_sound (by omega) (by decide) (by simp) (by simp only; omega) (by simp) (by simp) p18_ok rfl) ⟨rfl, by simp, by simp, by simp only; omega, by simp, by simp⟩ (do_store rfl rfl rfl rfl hb.1 hb.2 (tkO_write hW hb hwr)) rfl ?_
 refine Runs.step (i := ⟨13, 0, 0, 13, 0⟩) (z := tkS a b w 2 [] 11 12 (f - 6 - 1 - 1 - 1) [p18]) (t := ⟨W, [⟨a, 0⟩, ⟨b, w⟩], ⟨wr, ⟨[⟨b, 0⟩], []⟩, [⟨[], []⟩]⟩, m⟩) (tk_sound (by omega) (by decide) (by simp) (by simp only; omega) (by simp) (by simp) p18_ok rfl) ⟨rfl, by simp, by simp, by simp, by simp, by simp⟩ (by
  show ((if w = 0 then _ else _), _, _) = _
  rw [if_neg (by omega)]; rfl) rfl ?_
 refine Runs.step (i := ⟨12, 0, 0, 14, 0⟩) (z := tkS a b w 2 [] 12 14 (f - 6 - 1 - 1 - 1 - 1) [p18]) (t := ⟨W, [⟨a, 0⟩, ⟨b, w⟩], ⟨wr, ⟨[⟨b, 0⟩], []⟩, [⟨[], []⟩]⟩, m⟩) (tk_sound (by omega) (by decide) (by simp) (by simp only; omega) (by simp) (by simp) p18_ok rfl) ⟨rfl, by simp, by simp, by simp, by simp, by simp⟩ rfl rfl ?_
 refine Runs.step (i := ⟨19, 0, 0, 0, 0⟩) (z := tkS a b w 2 [] 14 15 (f - 6 - 1 - 1 - 1 - 1 - 1) []) (t := tkW W wr [⟨a, 0⟩, ⟨b, w⟩] m ⟨b, 0⟩) (tk_sound (by omega) (by decide) (by simp) (by simp only; omega) (by simp) (by simp) p18_ok rfl) ⟨rfl, by simp, by simp, by simp, by simp, by simp⟩ rfl rfl ?_
 refine Runs.step (i := ⟨21, 1, 0, 0, 0⟩) (z := tkS a b w 2 [2] 15 16 (f - 6 - 1 - 1 - 1 - 1 - 1 - 1) []) (t := tkW W wr [⟨a, 0⟩, ⟨b, w⟩] m ⟨b, 0⟩) (tk_sound (by omega) (by decide) (by simp) (by simp only; omega) (by simp) (by simp) (by simp) rfl) ⟨rfl, by simp, by simp, by simp, by simp, by simp⟩ rfl rfl ?_
 have := Runs.done (n := n + 1) (x := tkS a b w 2 [2] 16 16 (f - 13) []) (s := tkW W wr [⟨a, 0⟩, ⟨b, w⟩] m ⟨b, 0⟩) rfl rfl rfl
 show Runs (n + 2) (tkS a b w 2 [2] 16 16 (f - 6 - 1 - 1 - 1 - 1 - 1 - 1 - 1) []) _ _
 rw [show f - 6 - 1 - 1 - 1 - 1 - 1 - 1 - 1 = f - 13 by omega]
 exact this
theorem run_tkD {nx : Int} (hf : 20 ≤ f) (hf2 : f ≤ 400) (hW : 32 ≤ W) (hb : 6 ≤ b ∧ b ≤ 15) (hab : a ≠ b) (hwr : 1 ≤ wr) : Runs (n + 6) (tkS a b 0 0 [] 8 nx (f - 6) [p18]) (tkO W wr [⟨a, 0⟩, ⟨b, 0⟩] m) ({ tkS a b 0 2 [] 13 13 (f - 11) [] with fin := 3 }, tkV W wr [⟨a, 0⟩, ⟨b, 0⟩] m, 3) := by
 refine Runs.step (i := ⟨8, 0, 7, b, 0⟩) (z := tkS a b 0 0 [] 8 9 (f - 6) [p18]) (t := tkO W wr [⟨a, 0⟩, ⟨b, 0⟩] m) (tk_sound (by decide) (by decide) (by decide) (by omega) (by decide) (by decide) p18_ok rfl) ⟨rfl, by simp, by simp, by simp only; omega, by simp, by simp⟩ (do_load rfl rfl rfl hb.1 hb.2 (tkO_read hW hb (by simp [lookC, hab]))) rfl ?_
 refine Runs.step (i := ⟨1, 1, 0, 0, 2⟩) (z := tkS a b 0 2 [] 9 10 (f - 6 - 1) [p18]) (t := tkO W wr [⟨a, 0⟩, ⟨b, 0⟩] m) (tk_sound (by omega) (by decide) (by simp) (by simp only; omega) (by simp) (by simp) p18_ok rfl) ⟨rfl, by simp, by simp, by simp, by simp, by simp⟩ rfl rfl ?_
 refine Runs.step (i := ⟨9, 7, 6, b, 0⟩) (z := tkS a b 0 2 [] 10 11 (f - 6 - 1 - 1) [p18]) (t := ⟨W, [⟨a, 0⟩, ⟨b, 0⟩], ⟨wr, ⟨[⟨b, 0⟩], []⟩, [⟨[], []⟩]⟩, m⟩) (tk_sound (by omega) (by decide) (by simp) (by simp only; omega) (by simp) (by simp) p18_ok rfl) ⟨rfl, by simp, by simp, by simp only; omega, by simp, by simp⟩ (do_store rfl rfl rfl rfl hb.1 hb.2 (tkO_write hW hb hwr)) rfl ?_
 refine Runs.step (i := ⟨13, 0, 0, 13, 0⟩) (z := tkS a b 0 2 [] 11 13 (f - 6 - 1 - 1 - 1) [p18]) (t := ⟨W, [⟨a, 0⟩, ⟨b, 0⟩], ⟨wr, ⟨[⟨b, 0⟩], []⟩, [⟨[], []⟩]⟩, m⟩) (tk_sound (by omega) (by decide) (by simp) (by simp only; omega) (by simp) (by simp) p18_ok rfl) ⟨rfl, by simp, by simp, by simp, by simp, by simp⟩ rfl rfl ?_
 refine Runs.step (i := ⟨20, 0, 0, 0, 0⟩) (z := { tkS a b 0 2 [] 13 13 (f - 6 - 1 - 1 - 1 - 1) [] with fin := 3 }) (t := tkV W wr [⟨a, 0⟩, ⟨b, 0⟩] m) (tk_sound (by omega) (by decide) (by simp) (by simp only; omega) (by simp) (by simp) p18_ok rfl) ⟨rfl, by simp, by simp, by simp, by simp, by simp⟩ rfl rfl ?_
 have e : f - 6 - 1 - 1 - 1 - 1 - 1 = f - 11 := by omega
 have := Runs.fin (n := n + 1) (x := { tkS a b 0 2 [] 13 13 (f - 11) [] with fin := 3 }) (s := tkV W wr [⟨a, 0⟩, ⟨b, 0⟩] m) (show (3 : Int) ≠ 0 by decide)
 show Runs (n + 1) { tkS a b 0 2 [] 13 13 (f - 6 - 1 - 1 - 1 - 1 - 1) [] with fin := 3 } _ _
 rw [e]
 exact this
abbrev puS (c x : Int) (pos next left : Int) : IntG := ⟨putsP c, [-1, -1], 0, 0, 0, reg2 x 0, [], pos, next, left, []⟩
theorem pu_mt : MtOk [-1, -1] := by unfold MtOk; decide
theorem tkV_write (hW : 32 ≤ W) (ha : 6 ≤ a ∧ a ≤ 15) (hwr : 1 ≤ wr) : vWrite (tkV W wr k m) a w = (tkW W wr k m ⟨a, w⟩, 0) := by
 have h3 : isV (tkV W wr k m) a = true := by unfold isV; simp; omega
 have h4 : okAt a = true := by unfold okAt; simp; omega
 unfold vWrite
 rw [h3]
 simp [lErr, h4, idxC, LvS.room, totalC, LvS.put, putC]
 omega
theorem run_pu (hf : 20 ≤ f) (hf2 : f ≤ 400) (hW : 32 ≤ W) (hc : 6 ≤ c ∧ c ≤ 15) (hwr : 1 ≤ wr) : Runs (n + 3) (puS c 0 0 0 f) (tkV W wr [] m) ({ puS c 1 2 2 (f - 2) with fin := 2 }, tkW W wr [] m ⟨c, 1⟩, 2) := by
 have sd : ∀ x pos next left s, 0 ≤ x → 0 ≤ pos ∧ pos < 2 → 0 < left ∧ left ≤ 1000 → s.l.frees = [] → Sound (puS c x pos next left) s := fun x pos next left s hx hp hl hs =>
  ⟨rfl, rfl, hl, by simp [putsP], by simp [putsP]; omega, reg2_get hx (by decide), by simp, by simp, by intro q hq; simp at hq, pu_mt, by rw [hs]; exact Nat.zero_le _⟩
 refine Runs.step (i := ⟨1, 0, 0, 0, 1⟩) (z := puS c 1 0 1 f) (t := tkV W wr [] m) (sd _ _ _ _ _ (by decide) (by decide) (by omega) rfl) ⟨rfl, by simp, by simp, by simp, by simp, by simp⟩ rfl rfl ?_
 refine Runs.step (i := ⟨9, 7, 0, c, 0⟩) (z := puS c 1 1 2 (f - 1)) (t := tkW W wr [] m ⟨c, 1⟩) (sd _ _ _ _ _ (by decide) (by simp) (by simp only; omega) rfl) ⟨rfl, by simp, by simp, by simp only; omega, by simp, by simp⟩ (do_store rfl rfl rfl rfl hc.1 hc.2 (tkV_write hW hc hwr)) rfl ?_
 have := Runs.done (n := n) (x := puS c 1 2 2 (f - 2)) (s := tkW W wr [] m ⟨c, 1⟩) rfl rfl rfl
 show Runs (n + 1) (puS c 1 2 2 (f - 1 - 1)) _ _
 rw [show f - 1 - 1 = f - 2 by omega]
 exact this
abbrev adP : List TIns := [⟨8, 0, 7, 6, 0⟩, ⟨1, 1, 0, 0, 1⟩, ⟨3, 0, 0, 1, 0⟩, ⟨9, 7, 0, 6, 0⟩, ⟨21, 0, 0, 0, 0⟩]
abbrev adS (x y : Int) (items : List Int) (pos next left : Int) : IntG := ⟨adP, [-1, -1, -1, -1, -1], 0, 0, 0, reg2 x y, items, pos, next, left, []⟩
theorem ad_mt : MtOk [-1, -1, -1, -1, -1] := by unfold MtOk; decide
theorem ad_sound {x y pos next left : Int} {items : List Int} {s : VwS} (hx : 0 ≤ x) (hy : 0 ≤ y) (hp : 0 ≤ pos ∧ pos < 5) (hl : 0 < left ∧ left ≤ 1000) (hi : items.length ≤ 16) (hs : s.l.frees = []) : Sound (adS x y items pos next left) s :=
 ⟨rfl, rfl, hl, by simp, by simp; omega, reg2_get hx hy, hi, by simp, by intro q hq; simp at hq, ad_mt, by rw [hs]; exact Nat.zero_le _⟩
theorem run_ad0 : Runs (n + 1) (adS 0 0 [] 0 0 20) (tkV 40 9 [] 0) (adS 0 0 [] 0 1 20, tkV 40 9 [] 6, 1) :=
 Runs.needs (i := ⟨8, 0, 7, 6, 0⟩) (ad_sound (by decide) (by decide) (by decide) (by decide) (by decide) rfl) ⟨rfl, by simp, by simp, by simp, by simp, by simp⟩ (do_loadN rfl rfl rfl (by decide) (by decide) rfl) rfl
theorem run_ad1 : Runs (n + 6) (adS 0 0 [] 0 1 20) (tkV 40 9 [⟨6, 0⟩] 6) ({ adS 1 1 [1] 5 5 15 with fin := 2 }, tkW 40 9 [⟨6, 0⟩] 6 ⟨6, 1⟩, 2) := by
 refine Runs.step (i := ⟨8, 0, 7, 6, 0⟩) (z := adS 0 0 [] 0 1 20) (t := tkV 40 9 [⟨6, 0⟩] 6) (ad_sound (by decide) (by decide) (by decide) (by decide) (by decide) rfl) ⟨rfl, by simp, by simp, by simp, by simp, by simp⟩ (do_load rfl rfl rfl (by decide) (by decide) rfl) rfl ?_
 refine Runs.step (i := ⟨1, 1, 0, 0, 1⟩) (z := adS 0 1 [] 1 2 19) (t := tkV 40 9 [⟨6, 0⟩] 6) (ad_sound (by decide) (by decide) (by decide) (by decide) (by decide) rfl) ⟨rfl, by simp, by simp, by simp, by simp, by simp⟩ rfl rfl ?_
 refine Runs.step (i := ⟨3, 0, 0, 1, 0⟩) (z := adS 1 1 [] 2 3 18) (t := tkV 40 9 [⟨6, 0⟩] 6) (ad_sound (by decide) (by decide) (by decide) (by decide) (by decide) rfl) ⟨rfl, by simp, by simp, by simp, by simp, by simp⟩ rfl rfl ?_
 refine Runs.step (i := ⟨9, 7, 0, 6, 0⟩) (z := adS 1 1 [] 3 4 17) (t := tkW 40 9 [⟨6, 0⟩] 6 ⟨6, 1⟩) (ad_sound (by decide) (by decide) (by decide) (by decide) (by decide) rfl) ⟨rfl, by simp, by simp, by simp, by simp, by simp⟩ (do_store rfl rfl rfl rfl (by decide) (by decide) rfl) rfl ?_
 refine Runs.step (i := ⟨21, 0, 0, 0, 0⟩) (z := adS 1 1 [1] 4 5 16) (t := tkW 40 9 [⟨6, 0⟩] 6 ⟨6, 1⟩) (ad_sound (by decide) (by decide) (by decide) (by decide) (by decide) rfl) ⟨rfl, by simp, by simp, by simp, by simp, by simp⟩ rfl rfl ?_
 exact Runs.done (x := adS 1 1 [1] 5 5 15) rfl rfl rfl
theorem ad_new : intGNew adP 20 = adS 0 0 [] 0 0 20 := by
 have e1 : chkP adP = 0 ∧ matchP adP = [-1, -1, -1, -1, -1] := by decide
 unfold intGNew
 rw [e1.1, e1.2]
 rfl
theorem takes_new (ha : a = 8 ∨ a = 9) (hb : b = 10 ∨ b = 11) (hf : 0 ≤ f ∧ f ≤ 400) : intGNew (takesP a b) f = tkS a b 0 0 [] 0 0 f [] := by
 have e : held f 0 400 = f := by unfold held; rw [if_neg (by omega), if_neg (by omega)]
 have e1 : chkP (takesP a b) = 0 ∧ matchP (takesP a b) = takesM := by
  rcases ha with rfl | rfl <;> rcases hb with rfl | rfl <;> decide
 unfold intGNew
 rw [e, e1.1, e1.2]
theorem puts_new (hc : c = 8 ∨ c = 9 ∨ c = 10 ∨ c = 11) (hf : 0 ≤ f ∧ f ≤ 400) : intGNew (putsP c) f = puS c 0 0 0 f := by
 have e : held f 0 400 = f := by unfold held; rw [if_neg (by omega), if_neg (by omega)]
 have e1 : chkP (putsP c) = 0 ∧ matchP (putsP c) = [-1, -1] := by
  rcases hc with rfl | rfl | rfl | rfl <;> decide
 unfold intGNew
 rw [e, e1.1, e1.2]
end
end Go.Proofs.YtoealglbimbbmaaGreatDoor.S
