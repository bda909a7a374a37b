import Derived.Test.YtoealglbimbbmaaGreatDoorGChk
import Derived.Test.YtoealglbimbbmaaGreatDoorView
import Derived.Test.YtoealglbimbbmaaGreatDoorArr
namespace Go.Proofs.YtoealglbimbbmaaGreatDoor.S
open Go Go.Proofs
set_option linter.unusedVariables false
set_option linter.unusedSimpArgs false
structure Regs where
 r0 : Int
 r1 : Int
 r2 : Int
 r3 : Int
 r4 : Int
 r5 : Int
 r6 : Int
 r7 : Int
 deriving DecidableEq
def Regs.get (r : Regs) : Nat → Int
 | 0 => r.r0 | 1 => r.r1 | 2 => r.r2 | 3 => r.r3 | 4 => r.r4 | 5 => r.r5 | 6 => r.r6 | _ => r.r7
def Regs.set (r : Regs) (k : Nat) (x : Int) : Regs := match k with
 | 0 => { r with r0 := x } | 1 => { r with r1 := x } | 2 => { r with r2 := x } | 3 => { r with r3 := x } | 4 => { r with r4 := x } | 5 => { r with r5 := x } | 6 => { r with r6 := x } | _ => { r with r7 := x }
abbrev Regs.cells (r : Regs) : List Value := [u64 r.r0, u64 r.r1, u64 r.r2, u64 r.r3, u64 r.r4, u64 r.r5, u64 r.r6, u64 r.r7]
structure PartS where
 op : Int
 at_ : Int
 regs : Regs
 told : Int
 deriving DecidableEq
abbrev PartS.cells (a : PartS) : List Value := [i64 a.op, i64 a.at_, u64 a.regs.r0, u64 a.regs.r1, u64 a.regs.r2, u64 a.regs.r3, u64 a.regs.r4, u64 a.regs.r5, u64 a.regs.r6, u64 a.regs.r7, i64 a.told]
abbrev partE : Enc PartS := ⟨11, PartS.cells, fun | [.int .i64 x0, .int .i64 x1, .int .u64 x2, .int .u64 x3, .int .u64 x4, .int .u64 x5, .int .u64 x6, .int .u64 x7, .int .u64 x8, .int .u64 x9, .int .i64 x10] => some ⟨x0, x1, ⟨x2, x3, x4, x5, x6, x7, x8, x9⟩, x10⟩ | _ => none, by decide, fun _ => rfl, by simp [one], fun cs a h => by split at h <;> cases h; rfl⟩
instance {a : PartS} : EncIs partE a (PartS.cells a) := ⟨rfl⟩
structure IntG where
 prog : List TIns
 mt : List Int
 bad : Int
 err : Int
 fin : Int
 r : Regs
 items : List Int
 pos : Int
 next : Int
 left : Int
 op : List PartS
abbrev IntG.cells (x : IntG) (vl vm vo : Value) (vp op : Nat) : List Value := [vl, ptr vp 0, vm, i64 x.bad, i64 x.err, i64 x.fin, u64 x.r.r0, u64 x.r.r1, u64 x.r.r2, u64 x.r.r3, u64 x.r.r4, u64 x.r.r5, u64 x.r.r6, u64 x.r.r7, ptr op 0, i64 x.pos, i64 x.next, i64 x.left, vo]
def IntGR (k : Nat × Nat) (x : IntG) : Asn := exA fun vl => exA fun vm => exA fun vo => exA fun op => star (pureA (Cells vl [vl] ∧ Cells vm [vm] ∧ Cells vo [vo])) (star (star (star (star (own k.1 (x.cells vl vm vo k.2 op)) (sl tInsE vl x.prog)) (sl intE vm x.mt)) (sl partE vo x.op.reverse)) (ob SlateR op x.items))
section
variable {w0 : Base} {L M : List Asn} {K : KV} {F : World → Prop} {C : Asn → List Asn} {b vp op : Nat} {x : IntG} {s : VwS} {v vl vm vo : Value}
theorem IntGR_open : G w0 (ob IntGR (b, vp) x :: M) F = ∀ vl vm vo op, (Cells vl [vl] ∧ Cells vm [vm] ∧ Cells vo [vo]) → G w0 (own b (x.cells vl vm vo vp op) :: sl tInsE vl x.prog :: sl intE vm x.mt :: sl partE vo x.op.reverse :: ob SlateR op x.items :: M) F := by
 rw [ob_eq, IntGR]
 simp only [G_ex, G_star, G_pure]
theorem IntGR_close {vl vm vo : Value} (b vp op : Nat) (x : IntG) {ps : List PartS} [PickAll [own b (x.cells vl vm vo vp op), sl tInsE vl x.prog, sl intE vm x.mt, sl partE vo ps, ob SlateR op x.items] L M] (hp : ps = x.op.reverse) (h : Cells vl [vl] ∧ Cells vm [vm] ∧ Cells vo [vo]) (H : G w0 (ob IntGR (b, vp) x :: M) F) : G w0 L F :=
 G.pickAll (As := [own b (x.cells vl vm vo vp op), sl tInsE vl x.prog, sl intE vm x.mt, sl partE vo ps, ob SlateR op x.items]) (by rw [IntGR_open] at H; rw [hp]; exact H vl vm vo op h)
abbrev intGNew (p : List TIns) (fuel : Int) : IntG := ⟨p, matchP p, chkP p, 0, 0, ⟨0, 0, 0, 0, 0, 0, 0, 0⟩, [], 0, 0, held fuel 0 400, []⟩
theorem g_interp_New {p : List TIns} {fuel : Int} [r : Rd w0 L v tInsE 5 p] (hv : Cells v [v]) (hl : p.length ≤ 1000000) (hK : ∀ b, G w0 (ob IntGR (b, vp) (intGNew p fuel) :: L) (K (ptr b 0))) : G w0 L (CP Tryz.prog Fn.interp_New [.agg #[v], ptr vp 0, i64 fuel] K) := by
 refine C_interp_New ?_
 unfold S_interp_New
 refine G.box fun q => ?_
 refine gr ?_
 refine G.nilsl tInsE ?_
 refine G.append (E := tInsE) (xs := []) (ys := p) (by simp; omega) (by simp [maxLen]; omega) fun u hu => ?_
 simp only [List.nil_append]
 refine gr ?_
 refine g_check_Run hu hl fun a => ?_
 repeat' (first | (with_reducible refine G.joini0 ?_) | (with_reducible refine G.joini1 ?_) | (with_reducible refine G.drew ?_) | (simp (maxSteps := 2000000) only [↓RG, RP, RB, BEq.rfl, Int.reduceEq, Int.reduceLT, Int.reduceLE, Nat.reduceEqDiff]))
 refine g_check_Match hu hl fun u2 hu2 => ?_
 refine gg ?_
 refine s_slate_New fun op => ?_
 refine gg ?_
 refine G.box fun b => ?_
 have e : (if (if (400 : Int) < fuel then 400 else fuel) > 0 then if (400 : Int) < fuel then 400 else fuel else 0) = held fuel 0 400 := by unfold held; split <;> split <;> split <;> (try split) <;> omega
 refine grf e ?_
 refine G.nilsl partE ?_
 refine IntGR_close (vo := .slice none 0 0) (ps := []) b vp op (intGNew p fuel) rfl ⟨hu, hu2, cells_slice⟩ ?_
 exact (hK b).sub
theorem g_interp_Err [i : SelOb L IntGR (b, vp) x C] (hK : G w0 L (K (i64 x.err))) : G w0 L (CP Tryz.prog Fn.interp_Interp_Err [ptr b 0] K) := by
 refine i.ro (fun M hK => ?_) hK
 refine C_interp_Interp_Err ?_
 unfold S_interp_Interp_Err
 rw [IntGR_open] at *
 intro vl vm vo op h
 have hK := hK vl vm vo op h
 refine gr ?_
 exact hK
theorem g_interp_Slate (hl : x.items.length ≤ 1000000) [i : SelOb L IntGR (b, vp) x C] (hK : ∀ c, G w0 (ob SlateR c x.items :: L) (K (ptr c 0))) : G w0 L (CP Tryz.prog Fn.interp_Interp_Slate [ptr b 0] K) := by
 refine i.roN (P := fun _ => True) (N := fun c => ob SlateR c x.items) (F' := fun c => K (ptr c 0)) (fun M hK => ?_) (fun c _ => hK c)
 refine C_interp_Interp_Slate ?_
 unfold S_interp_Interp_Slate
 rw [IntGR_open]
 intro vl vm vo op h
 refine gr ?_
 refine s_slate_Slate_Copy (xs := x.items) hl fun c => ?_
 refine IntGR_close b vp op x rfl h ?_
 exact (hK c trivial).sub
theorem g_interp_fail {e : Int} [i : SelOb L IntGR (b, vp) x C] (hK : G w0 (C (ob IntGR (b, vp) { x with fin := 4, err := e })) (K (.tuple #[]))) : G w0 L (CP Tryz.prog Fn.interp_Interp_fail [ptr b 0, i64 e] K) := by
 refine i.use (fun M hK => ?_) hK
 refine C_interp_Interp_fail ?_
 unfold S_interp_Interp_fail
 rw [IntGR_open] at *
 intro vl vm vo op h
 have hK := hK vl vm vo op h
 refine gr ?_
 exact hK
theorem g_slate_Len {xs : List Int} [i : SelOb L SlateR b xs C] (hK : G w0 L (K (i64 xs.length))) : G w0 L (CP Tryz.prog Fn.slate_Slate_Len [ptr b 0] K) := by
 refine i.ro (fun M hK => ?_) hK
 refine C_slate_Slate_Len ?_
 unfold S_slate_Slate_Len
 rw [BoxR_open] at *
 intro v hv
 have hK := hK v hv
 refine gr ?_
 exact hK
theorem g_slate_Cut {xs : List Int} {k : Nat} (hk : k ≤ xs.length) (hl : xs.length ≤ 1000000) [i : SelOb L SlateR b xs C] (hK : G w0 (C (ob SlateR b (xs.take k))) (K (.tuple #[]))) : G w0 L (CP Tryz.prog Fn.slate_Slate_Cut [ptr b 0, i64 k] K) := by
 refine i.use (fun M hK => ?_) hK
 refine C_slate_Slate_Cut ?_
 unfold S_slate_Slate_Cut
 rw [BoxR_open]
 intro v hv
 have e1 : (if (xs.length : Int) < k then (xs.length : Int) else k) = k := by rw [if_neg (by omega)]
 have e2 : (if (k : Int) > 0 then (k : Int) else 0) = k := by split <;> omega
 repeat' (first | (with_reducible refine G.joini0 ?_) | (with_reducible refine G.joini1 ?_) | (with_reducible refine G.drew ?_) | (simp (maxSteps := 2000000) only [↓RG, RP, RB, BEq.rfl, Int.reduceEq, Int.reduceLT, Int.reduceLE, Nat.reduceEqDiff, e1, e2]))
 refine G.take (m := k) hk fun u hu => ?_
 refine s_slices_Clone_any_any (xs := xs.take k) (by simp only [List.length_take]; omega) fun u2 hu2 => ?_
 refine gg ?_
 rw [BoxR_open] at hK
 exact (hK u2 hu2).sub
theorem g_slate_AddNum {xs : List Int} {n : Int} [i : SelOb L SlateR b xs C] (hl : xs.length ≤ 16) (hK : G w0 (C (ob SlateR b (if xs.length < 16 then xs ++ [n] else xs))) (K (.bool (decide (xs.length < 16))))) : G w0 L (CP Tryz.prog Fn.slate_Slate_AddNum [ptr b 0, u64 n] K) := by
 by_cases h : xs.length < 16
 ·rw [if_pos h, decide_eq_true h] at hK
  exact s_slate_Slate_AddNum h hK
 ·rw [if_neg h, decide_eq_false h] at hK
  refine i.use (fun M hK => ?_) hK
  refine C_slate_Slate_AddNum ?_
  unfold S_slate_Slate_AddNum
  refine gr ?_
  refine C_slate_Slate_add ?_
  unfold S_slate_Slate_add
  rw [BoxR_open] at *
  intro v hv
  have hK := hK v hv
  have h16 : (16 : Int) ≤ xs.length := by omega
  refine grf h16 ?_
  exact hK
abbrev iBegin (x : IntG) (s : VwS) (op_ at_ : Int) : IntG × VwS × Int := if (lOpen s.l).2 = 0 then ({ x with op := ⟨op_, at_, x.r, x.items.length⟩ :: x.op }, s.log (lOpen s.l).1, 0) else (x, s.log (lOpen s.l).1, (lOpen s.l).2)
theorem g_interp_begin {o a : Int} (hl : x.op.length ≤ 1000) (hK : G w0 (ob IntGR (b, vp) (iBegin x s o a).1 :: ob ViewR vp (iBegin x s o a).2.1 :: M) (K (i64 (iBegin x s o a).2.2))) :
  G w0 (ob IntGR (b, vp) x :: ob ViewR vp s :: M) (CP Tryz.prog Fn.interp_Interp_begin [ptr b 0, i64 o, i64 a] K) := by
 refine C_interp_Interp_begin ?_
 unfold S_interp_Interp_begin
 rw [IntGR_open]
 intro vl vm vo op h
 unfold iBegin at hK
 refine gg ?_
 refine s_view_Open (s := s) ?_
 by_cases c : (lOpen s.l).2 = 0
 ·simp only [if_pos c] at hK
  repeat' (first | (with_reducible refine G.joini0 ?_) | (with_reducible refine G.joini1 ?_) | (with_reducible refine G.drew ?_) | (simp (maxSteps := 2000000) only [↓RG, RP, RB, BEq.rfl, Int.reduceEq, Int.reduceLT, Int.reduceLE, Nat.reduceEqDiff, c]))
  refine g_slate_Len (xs := x.items) ?_
  refine gg ?_
  refine G.build partE [⟨o, a, x.r, x.items.length⟩] rfl (by decide) rfl fun y hy => ?_
  refine gg ?_
  refine G.append (E := partE) (xs := x.op.reverse) (ys := [⟨o, a, x.r, x.items.length⟩]) (by simp only [List.length_reverse, List.length_singleton]; omega) (by simp only [List.length_reverse, List.length_singleton, maxLen]; omega) fun u5 h5 => ?_
  refine gg ?_
  refine IntGR_close (vo := u5) (ps := x.op.reverse ++ [⟨o, a, x.r, x.items.length⟩]) b vp op { x with op := ⟨o, a, x.r, x.items.length⟩ :: x.op } (by simp) ⟨h.1, h.2.1, h5⟩ ?_
  exact hK.sub
 ·simp only [if_neg c] at hK
  refine gf c ?_
  refine IntGR_close b vp op x rfl h ?_
  exact hK.sub
theorem take_last {α : Type} {a : α} {l : List α} : (a :: l).reverse.take l.length = l.reverse := by
 rw [List.reverse_cons, List.take_append_of_le_length (by simp)]
 exact List.take_of_length_le (by simp)
theorem g_interp_leave {q : PartS} {ps : List PartS} (ho : x.op = q :: ps) (hl : ps.length ≤ 1000) (hK : G w0 (ob IntGR (b, vp) { x with op := ps } :: M) (K (.agg (PartS.cells q).toArray))) :
  G w0 (ob IntGR (b, vp) x :: M) (CP Tryz.prog Fn.interp_Interp_leave [ptr b 0] K) := by
 refine C_interp_Interp_leave ?_
 unfold S_interp_Interp_leave
 refine G.new fun q1 => ?_
 rw [G_swap, IntGR_open]
 intro vl vm vo op h
 rw [ho]
 have e1 : IntKind.wrap .i64 ((((q :: ps).reverse.length : Nat) : Int) - 1) = ((ps.length : Nat) : Int) := by
  simp only [List.length_reverse, List.length_cons]
  rw [wi64 (by omega) (by omega)]; omega
 have e : Elem (q :: ps).reverse ps.length q := ⟨by rw [List.reverse_cons, List.getElem?_append_right (by simp)]; simp⟩
 repeat' (first | (with_reducible refine G.joini0 ?_) | (with_reducible refine G.joini1 ?_) | (with_reducible refine G.drew ?_) | (simp (maxSteps := 2000000) only [↓RG, RP, RB, BEq.rfl, Int.reduceEq, Int.reduceLT, Int.reduceLE, Nat.reduceEqDiff, e1]))
 refine G.new fun q2 => ?_
 repeat' (first | (with_reducible refine G.joini0 ?_) | (with_reducible refine G.joini1 ?_) | (with_reducible refine G.drew ?_) | (simp (maxSteps := 2000000) only [↓RG, RP, RB, BEq.rfl, Int.reduceEq, Int.reduceLT, Int.reduceLE, Nat.reduceEqDiff, e1]))
 refine G.take (m := ps.length) (by simp) fun u hu => ?_
 rw [take_last]
 refine gg ?_
 refine IntGR_close (vo := u) (ps := ps.reverse) b vp op { x with op := ps } rfl ⟨h.1, h.2.1, hu⟩ ?_
 exact hK.sub
theorem g_interp_back {q : PartS} {k : Nat} (hq : q.told = k) (hk : k ≤ x.items.length) (hl : x.items.length ≤ 1000000) [i : SelOb L IntGR (b, vp) x C] (hK : G w0 (C (ob IntGR (b, vp) { x with r := q.regs, items := x.items.take k })) (K (.tuple #[]))) :
  G w0 L (CP Tryz.prog Fn.interp_Interp_back [ptr b 0, .agg (PartS.cells q).toArray] K) := by
 refine i.use (fun M hK => ?_) hK
 refine C_interp_Interp_back ?_
 unfold S_interp_Interp_back
 refine G.box fun q1 => ?_
 rw [G_swap, IntGR_open]
 intro vl vm vo op h
 repeat' (first | (with_reducible refine G.joini0 ?_) | (with_reducible refine G.joini1 ?_) | (with_reducible refine G.drew ?_) | (simp (maxSteps := 2000000) only [↓RG, RP, RB, BEq.rfl, Int.reduceEq, Int.reduceLT, Int.reduceLE, Nat.reduceEqDiff]))
 rw [hq]
 refine g_slate_Cut (xs := x.items) hk hl ?_
 refine gg ?_
 refine IntGR_close b vp op { x with r := q.regs, items := x.items.take k } rfl h ?_
 exact hK.sub
def iRetry (x : IntG) (s : VwS) : List PartS → IntG × VwS × Int
 | [] => ({ x with op := [], next := x.pos, fin := 3 }, s, 0)
 | q :: ps => if (lDrop s.l).2 = 0 then
   (if q.op = 17 then iBegin { x with op := ps, r := q.regs, items := x.items.take q.told.toNat, next := x.mt.getD q.at_.toNat 0 + 1 } (s.log (lDrop s.l).1) 18 (x.mt.getD q.at_.toNat 0)
    else iRetry x (s.log (lDrop s.l).1) ps)
  else ({ x with op := ps }, s.log (lDrop s.l).1, (lDrop s.l).2)
theorem iRetry_nil : iRetry x s [] = ({ x with op := [], next := x.pos, fin := 3 }, s, 0) := rfl
theorem iRetry_cons {q : PartS} {ps : List PartS} : iRetry x s (q :: ps) = if (lDrop s.l).2 = 0 then
   (if q.op = 17 then iBegin { x with op := ps, r := q.regs, items := x.items.take q.told.toNat, next := x.mt.getD q.at_.toNat 0 + 1 } (s.log (lDrop s.l).1) 18 (x.mt.getD q.at_.toNat 0)
    else iRetry x (s.log (lDrop s.l).1) ps)
  else ({ x with op := ps }, s.log (lDrop s.l).1, (lDrop s.l).2) := rfl
def PartsOk (x : IntG) (l : List PartS) : Prop := ∀ q ∈ l, 0 ≤ q.told ∧ q.told ≤ x.items.length ∧ 0 ≤ q.at_ ∧ q.at_ < x.mt.length
def MtOk (l : List Int) : Prop := ∀ n ∈ l, -1 ≤ n ∧ n ≤ 1000
theorem mt_at {l : List Int} (h : MtOk l) {k : Nat} (hk : k < l.length) : Elem l k (l.getD k 0) ∧ -1 ≤ l.getD k 0 ∧ l.getD k 0 ≤ 1000 := by
 have e : l[k]? = some l[k] := List.getElem?_eq_getElem hk
 have e2 : l.getD k 0 = l[k] := by rw [List.getD_eq_getElem?_getD, e]; rfl
 rw [e2]
 exact ⟨⟨e⟩, h _ (List.getElem_mem hk)⟩
theorem g_interp_retry (hl : x.op.length ≤ 1000) (hi : x.items.length ≤ 1000000) (hp : PartsOk x x.op) (hm : MtOk x.mt) (hK : G w0 (ob IntGR (b, vp) (iRetry x s x.op).1 :: ob ViewR vp (iRetry x s x.op).2.1 :: M) (K (i64 (iRetry x s x.op).2.2))) :
  G w0 (ob IntGR (b, vp) x :: ob ViewR vp s :: M) (CP Tryz.prog Fn.interp_Interp_retry [ptr b 0] K) := by
 refine C_interp_Interp_retry ?_
 unfold S_interp_Interp_retry
 refine G.loop0 (σ := List PartS × VwS) (fun z => ob IntGR (b, vp) { x with op := z.1 } :: ob ViewR vp z.2 :: M) (fun z => z.1.length ≤ 1000 ∧ PartsOk x z.1 ∧ iRetry x z.2 z.1 = iRetry x s x.op) (fun z => z.1.length) (x.op, s) rfl ⟨hl, hp, rfl⟩ ?_
 rintro ⟨ps, t⟩ ⟨hpl, hpp, he⟩ J hJ
 simp only at hpl hpp he hJ ⊢
 rw [← he] at hK
 cases ps with
 | nil =>
  rw [IntGR_open]
  intro vl vm vo op h
  repeat' (first | (with_reducible refine G.joini0 ?_) | (with_reducible refine G.joini1 ?_) | (with_reducible refine G.drew ?_) | (simp (maxSteps := 2000000) only [↓RG, RP, RB, BEq.rfl, Int.reduceEq, Int.reduceLT, Int.reduceLE, Nat.reduceEqDiff, List.reverse_nil, List.length_nil, Int.cast_ofNat_Int]))
  rw [iRetry_nil] at hK
  refine IntGR_close (vo := vo) (ps := []) b vp op { x with op := [], next := x.pos, fin := 3 } rfl h ?_
  exact hK.sub
 | cons q ps =>
  obtain ⟨t0, t1, a0, a1⟩ := hpp q (by simp)
  simp only [List.length_cons] at hpl
  have hl1 : ((0 : Int) < (((q :: ps).reverse.length : Nat) : Int)) = True := eq_true (by simp)
  rw [IntGR_open]
  intro vl vm vo op h
  refine gf hl1 ?_
  refine IntGR_close b vp op { x with op := q :: ps } rfl h ?_
  refine g_interp_leave (x := { x with op := q :: ps }) (q := q) (ps := ps) rfl (by omega) ?_
  refine gg ?_
  refine G.new fun q1 => ?_
  refine G.take1 IntGR (b, vp) ?_
  rw [IntGR_open]
  intro vl vm vo op h
  refine gg ?_
  refine s_view_Drop (s := t) ?_
  rw [iRetry_cons] at hK he
  by_cases c : (lDrop t.l).2 = 0
  ·rw [if_pos c] at hK he
   by_cases c2 : q.op = 17
   ·rw [if_pos c2] at hK
    obtain ⟨g1, g2, g3⟩ := mt_at hm (k := q.at_.toNat) (by omega)
    have ix : IxI q.at_ q.at_.toNat := ⟨by omega⟩
    have ew : IntKind.wrap .i64 (x.mt.getD q.at_.toNat 0 + 1) = x.mt.getD q.at_.toNat 0 + 1 := wi64 (by omega) (by omega)
    refine gf (an c (eq_true c2)) ?_
    refine IntGR_close b vp op { x with op := ps } rfl h ?_
    refine g_interp_back (vp := vp) (x := { x with op := ps }) (q := q) (k := q.told.toNat) (by omega) (by simp only; omega) hi ?_
    refine G.take1 IntGR (b, vp) ?_
    rw [IntGR_open]
    intro vl vm vo op h
    repeat' (first | (with_reducible refine G.joini0 ?_) | (with_reducible refine G.joini1 ?_) | (with_reducible refine G.drew ?_) | (simp (maxSteps := 2000000) only [↓RG, RP, RB, BEq.rfl, Int.reduceEq, Int.reduceLT, Int.reduceLE, Nat.reduceEqDiff, ew]))
    refine IntGR_close b vp op { x with op := ps, r := q.regs, items := x.items.take q.told.toNat, next := x.mt.getD q.at_.toNat 0 + 1 } rfl h ?_
    refine G.pickAll (As := [ob IntGR (b, vp) { x with op := ps, r := q.regs, items := x.items.take q.told.toNat, next := x.mt.getD q.at_.toNat 0 + 1 }, ob ViewR vp (t.log (lDrop t.l).1)]) ?_
    simp only [List.cons_append, List.nil_append]
    refine g_interp_begin (x := { x with op := ps, r := q.regs, items := x.items.take q.told.toNat, next := x.mt.getD q.at_.toNat 0 + 1 }) (s := t.log (lDrop t.l).1) (by simp only; omega) ?_
    repeat' (first | (with_reducible refine G.joini0 ?_) | (with_reducible refine G.joini1 ?_) | (with_reducible refine G.drew ?_) | (simp (maxSteps := 2000000) only [↓RG, RP, RB, BEq.rfl, Int.reduceEq, Int.reduceLT, Int.reduceLE, Nat.reduceEqDiff]))
    exact hK.sub
   ·rw [if_neg c2] at he
    refine gf (an c c2) ?_
    refine IntGR_close b vp op { x with op := ps } rfl h ?_
    exact (hJ (ps, t.log (lDrop t.l).1) ⟨by show ps.length ≤ 1000; omega, fun z hz => hpp z (List.mem_cons_of_mem _ hz), he⟩ (by simp)).sub
  ·rw [if_neg c] at hK
   refine gf c ?_
   refine IntGR_close b vp op { x with op := ps } rfl h ?_
   exact hK.sub
def iTurn (x : IntG) (s : VwS) (o : Int) : IntG × VwS × Int :=
 if o = 14 ∨ o = 17 then iBegin x s o x.pos
 else if o = 15 ∨ o = 19 then ({ x with op := x.op.tail }, s.log (lKeep s.l).1, (lKeep s.l).2)
 else if o = 18 then ({ x with op := x.op.tail, next := x.mt.getD x.pos.toNat 0 + 1 }, s.log (lKeep s.l).1, (lKeep s.l).2)
 else if o = 16 then ({ x with op := x.op.tail, r := (x.op.headD ⟨0, 0, ⟨0, 0, 0, 0, 0, 0, 0, 0⟩, 0⟩).regs, items := x.items.take (x.op.headD ⟨0, 0, ⟨0, 0, 0, 0, 0, 0, 0, 0⟩, 0⟩).told.toNat, next := x.mt.getD x.pos.toNat 0 + 1 }, s.log (lDrop s.l).1, (lDrop s.l).2)
 else iRetry x s x.op
structure TurnOk (x : IntG) (s : VwS) (o : Int) : Prop where
 len : x.op.length ≤ 1000
 items : x.items.length ≤ 1000000
 parts : PartsOk x x.op
 mt : MtOk x.mt
 frees : s.l.frees.length ≤ 1000000
 ne : (o = 15 ∨ o = 16 ∨ o = 18 ∨ o = 19) → x.op ≠ []
 pos : (o = 16 ∨ o = 18) → 0 ≤ x.pos ∧ x.pos < x.mt.length
theorem g_interp_turn {i : TIns} (ho : TurnOk x s i.op) (hK : G w0 (ob IntGR (b, vp) (iTurn x s i.op).1 :: ob ViewR vp (iTurn x s i.op).2.1 :: M) (K (i64 (iTurn x s i.op).2.2))) :
  G w0 (ob IntGR (b, vp) x :: ob ViewR vp s :: M) (CP Tryz.prog Fn.interp_Interp_turn [ptr b 0, .agg #[i64 i.op, i64 i.a, i64 i.b, i64 i.c, u64 i.n]] K) := by
 refine C_interp_Interp_turn ?_
 unfold S_interp_Interp_turn
 refine G.box fun q => ?_
 unfold iTurn at hK
 by_cases h14 : i.op = 14 ∨ i.op = 17
 ·rw [if_pos h14] at hK
  refine G.take1 IntGR (b, vp) ?_
  rw [IntGR_open]
  intro vl vm vo op h
  have hfin : G w0 (own b (x.cells vl vm vo vp op) :: sl tInsE vl x.prog :: sl intE vm x.mt :: sl partE vo x.op.reverse :: ob SlateR op x.items :: own q [i64 i.op, i64 i.a, i64 i.b, i64 i.c, u64 i.n] :: ob ViewR vp s :: M) (CP Tryz.prog Fn.interp_Interp_begin [ptr b 0, i64 i.op, i64 x.pos] (fun x11 => andP (andP trueP (andP trueP trueP)) (K x11))) := by
   refine IntGR_close b vp op x rfl h ?_
   refine G.pickAll (As := [ob IntGR (b, vp) x, ob ViewR vp s]) ?_
   simp only [List.cons_append, List.nil_append]
   refine g_interp_begin (x := x) (s := s) ho.len ?_
   refine gg ?_
   exact hK.sub
  rcases h14 with h14 | h14
  ·repeat' (first | (with_reducible refine G.joini0 ?_) | (with_reducible refine G.joini1 ?_) | (with_reducible refine G.drew ?_) | (simp (maxSteps := 2000000) only [↓RG, RP, RB, BEq.rfl, Int.reduceEq, Int.reduceLT, Int.reduceLE, Nat.reduceEqDiff, eq_true h14]))
   exact hfin
  ·have c : ¬ i.op = 14 := by omega
   repeat' (first | (with_reducible refine G.joini0 ?_) | (with_reducible refine G.joini1 ?_) | (with_reducible refine G.drew ?_) | (simp (maxSteps := 2000000) only [↓RG, RP, RB, BEq.rfl, Int.reduceEq, Int.reduceLT, Int.reduceLE, Nat.reduceEqDiff, c, eq_true h14]))
   exact hfin
 rw [if_neg h14] at hK
 have c14 : ¬ i.op = 14 := fun g => h14 (.inl g)
 have c17 : ¬ i.op = 17 := fun g => h14 (.inr g)
 have hleave : (i.op = 15 ∨ i.op = 16 ∨ i.op = 18 ∨ i.op = 19) → ∃ p ps, x.op = p :: ps ∧ x.op.tail = ps ∧ ps.length ≤ 1000 := fun g => by
  have := ho.ne g
  have hl := ho.len
  cases hx : x.op with
  | nil => exact absurd hx this
  | cons p ps => rw [hx] at hl; exact ⟨p, ps, rfl, rfl, by simp at hl; omega⟩
 by_cases h15 : i.op = 15 ∨ i.op = 19
 ·rw [if_pos h15] at hK
  obtain ⟨p, ps, e1, e2, e3⟩ := hleave (by omega)
  rw [e2] at hK
  have hfin : G w0 (own q [i64 i.op, i64 i.a, i64 i.b, i64 i.c, u64 i.n] :: ob IntGR (b, vp) x :: ob ViewR vp s :: M) (CP Tryz.prog Fn.interp_Interp_leave [ptr b 0] (fun x14 => load1W (ptr b 1) (fun x17 => CP Tryz.prog Fn.view_View_Keep [x17] (fun x18 => K x18)))) := by
   refine G.pickAll (As := [ob IntGR (b, vp) x]) ?_
   simp only [List.cons_append, List.nil_append]
   refine g_interp_leave (x := x) (q := p) (ps := ps) e1 e3 ?_
   rw [IntGR_open]
   intro vl vm vo op h
   refine gg ?_
   refine s_view_Keep (s := s) ho.frees ?_
   refine IntGR_close b vp op { x with op := ps } rfl h ?_
   exact hK.sub
  rcases h15 with h15 | h15
  ·repeat' (first | (with_reducible refine G.joini0 ?_) | (with_reducible refine G.joini1 ?_) | (with_reducible refine G.drew ?_) | (simp (maxSteps := 2000000) only [↓RG, RP, RB, BEq.rfl, Int.reduceEq, Int.reduceLT, Int.reduceLE, Nat.reduceEqDiff, c14, c17, eq_true h15]))
   exact hfin
  ·have c : ¬ i.op = 15 := by omega
   repeat' (first | (with_reducible refine G.joini0 ?_) | (with_reducible refine G.joini1 ?_) | (with_reducible refine G.drew ?_) | (simp (maxSteps := 2000000) only [↓RG, RP, RB, BEq.rfl, Int.reduceEq, Int.reduceLT, Int.reduceLE, Nat.reduceEqDiff, c14, c17, c, eq_true h15]))
   exact hfin
 rw [if_neg h15] at hK
 have c15 : ¬ i.op = 15 := fun g => h15 (.inl g)
 have c19 : ¬ i.op = 19 := fun g => h15 (.inr g)
 by_cases h18 : i.op = 18
 ·rw [if_pos h18] at hK
  obtain ⟨p, ps, e1, e2, e3⟩ := hleave (by omega)
  obtain ⟨p0, p1⟩ := ho.pos (.inr h18)
  obtain ⟨g1, g2, g3⟩ := mt_at ho.mt (k := x.pos.toNat) (by omega)
  have ix : IxI x.pos x.pos.toNat := ⟨by omega⟩
  have ew : IntKind.wrap .i64 (x.mt.getD x.pos.toNat 0 + 1) = x.mt.getD x.pos.toNat 0 + 1 := wi64 (by omega) (by omega)
  rw [e2] at hK
  repeat' (first | (with_reducible refine G.joini0 ?_) | (with_reducible refine G.joini1 ?_) | (with_reducible refine G.drew ?_) | (simp (maxSteps := 2000000) only [↓RG, RP, RB, BEq.rfl, Int.reduceEq, Int.reduceLT, Int.reduceLE, Nat.reduceEqDiff, c14, c17, c15, c19, eq_true h18]))
  refine G.pickAll (As := [ob IntGR (b, vp) x]) ?_
  simp only [List.cons_append, List.nil_append]
  refine g_interp_leave (x := x) (q := p) (ps := ps) e1 e3 ?_
  rw [IntGR_open]
  intro vl vm vo op h
  repeat' (first | (with_reducible refine G.joini0 ?_) | (with_reducible refine G.joini1 ?_) | (with_reducible refine G.drew ?_) | (simp (maxSteps := 2000000) only [↓RG, RP, RB, BEq.rfl, Int.reduceEq, Int.reduceLT, Int.reduceLE, Nat.reduceEqDiff, ew]))
  refine s_view_Keep (s := s) ho.frees ?_
  refine IntGR_close b vp op { x with op := ps, next := x.mt.getD x.pos.toNat 0 + 1 } rfl h ?_
  exact hK.sub
 rw [if_neg h18] at hK
 by_cases h16 : i.op = 16
 ·rw [if_pos h16] at hK
  obtain ⟨p, ps, e1, e2, e3⟩ := hleave (by omega)
  obtain ⟨p0, p1⟩ := ho.pos (.inl h16)
  obtain ⟨t0, t1, _, _⟩ := ho.parts p (by rw [e1]; simp)
  obtain ⟨g1, g2, g3⟩ := mt_at ho.mt (k := x.pos.toNat) (by omega)
  have ix : IxI x.pos x.pos.toNat := ⟨by omega⟩
  have ew : IntKind.wrap .i64 (x.mt.getD x.pos.toNat 0 + 1) = x.mt.getD x.pos.toNat 0 + 1 := wi64 (by omega) (by omega)
  rw [e2, e1] at hK
  simp only [List.headD_cons] at hK
  repeat' (first | (with_reducible refine G.joini0 ?_) | (with_reducible refine G.joini1 ?_) | (with_reducible refine G.drew ?_) | (simp (maxSteps := 2000000) only [↓RG, RP, RB, BEq.rfl, Int.reduceEq, Int.reduceLT, Int.reduceLE, Nat.reduceEqDiff, c14, c17, c15, c19, h18, eq_true h16]))
  refine G.pickAll (As := [ob IntGR (b, vp) x]) ?_
  simp only [List.cons_append, List.nil_append]
  refine g_interp_leave (x := x) (q := p) (ps := ps) e1 e3 ?_
  refine g_interp_back (vp := vp) (x := { x with op := ps }) (q := p) (k := p.told.toNat) (by omega) (by simp only; omega) ho.items ?_
  rw [IntGR_open]
  intro vl vm vo op h
  repeat' (first | (with_reducible refine G.joini0 ?_) | (with_reducible refine G.joini1 ?_) | (with_reducible refine G.drew ?_) | (simp (maxSteps := 2000000) only [↓RG, RP, RB, BEq.rfl, Int.reduceEq, Int.reduceLT, Int.reduceLE, Nat.reduceEqDiff, ew]))
  refine s_view_Drop (s := s) ?_
  refine IntGR_close b vp op { x with op := ps, r := p.regs, items := x.items.take p.told.toNat, next := x.mt.getD x.pos.toNat 0 + 1 } rfl h ?_
  exact hK.sub
 rw [if_neg h16] at hK
 repeat' (first | (with_reducible refine G.joini0 ?_) | (with_reducible refine G.joini1 ?_) | (with_reducible refine G.drew ?_) | (simp (maxSteps := 2000000) only [↓RG, RP, RB, BEq.rfl, Int.reduceEq, Int.reduceLT, Int.reduceLE, Nat.reduceEqDiff, c14, c17, c15, c19, h18, h16]))
 refine G.pickAll (As := [ob IntGR (b, vp) x, ob ViewR vp s]) ?_
 simp only [List.cons_append, List.nil_append]
 refine g_interp_retry (x := x) (s := s) ho.len ho.items ho.parts ho.mt ?_
 exact hK.sub
abbrev m8 (n : Int) : Nat := (n.tmod 8).toNat
theorem m8_lt {n : Int} (h : 0 ≤ n) : m8 n < 8 ∧ n.tmod 8 = (m8 n : Int) := by
 have h1 := Int.tmod_nonneg 8 h
 have h2 := Int.tmod_lt_of_pos n (show (0 : Int) < 8 by decide)
 unfold m8
 omega
theorem regs_nth {k : Nat} (hk : k < 8) : Nth (x.cells vl vm vo vp op) (6 + k) (u64 (x.r.get k)) := by
 match k, hk with
 | 0, _ => exact ⟨rfl⟩
 | 1, _ => exact ⟨rfl⟩
 | 2, _ => exact ⟨rfl⟩
 | 3, _ => exact ⟨rfl⟩
 | 4, _ => exact ⟨rfl⟩
 | 5, _ => exact ⟨rfl⟩
 | 6, _ => exact ⟨rfl⟩
 | 7, _ => exact ⟨rfl⟩
abbrev setR (x : IntG) (k : Nat) (y : Int) : IntG := { x with r := x.r.set k y }
theorem regs_seg {k : Nat} {y : Int} (hk : k < 8) : SegIs (x.cells vl vm vo vp op) (6 + k) [u64 y] ((setR x k y).cells vl vm vo vp op) := by
 match k, hk with
 | 0, _ => exact ⟨rfl, by simp⟩
 | 1, _ => exact ⟨rfl, by simp⟩
 | 2, _ => exact ⟨rfl, by simp⟩
 | 3, _ => exact ⟨rfl, by simp⟩
 | 4, _ => exact ⟨rfl, by simp⟩
 | 5, _ => exact ⟨rfl, by simp⟩
 | 6, _ => exact ⟨rfl, by simp⟩
 | 7, _ => exact ⟨rfl, by simp⟩
class LtK (k n : Nat) : Prop where
 lt : k < n
theorem G_ridx {o n k m : Nat} {kd : IntKind} {i : Int} [hi : IxI i k] [ha : AddIs o k m] [hk : LtK k n] : G w0 L (idxArrW n 1 (ptr b o) (.int kd i) K) = G w0 L (K (ptr b m)) := G_eqOf fun w H => by
 have h1 := hi.eq
 have h2 := ha.eq
 have h := hk.lt
 subst h1 h2
 simp [idxArrW, h]
def iPlace (base off : Int) : Int × Int := if 2147483648 ≤ base ∨ 2147483648 ≤ base + off ∨ base + off < 6 then (0, 2) else (base + off, 0)
theorem g_interp_place {base off : Int} (h0 : 0 ≤ base) (h1 : 0 ≤ off) (h2 : off ≤ 1000) (hK : G w0 L (K (.tuple #[i64 (iPlace base off).1, i64 (iPlace base off).2]))) : G w0 L (CP Tryz.prog Fn.interp_place [u64 base, i64 off] K) := by
 refine C_interp_place ?_
 unfold S_interp_place
 unfold iPlace at hK
 try simp (maxSteps := 2000000) only [fuse_and, fuse_or, fuse_step, fuse_pair, fuse_in, andP_true]
 by_cases c1 : 2147483648 ≤ base
 ·rw [if_pos (.inl c1)] at hK
  refine grf c1 ?_
  exact hK
 ·have e1 : IntKind.wrap .i64 base = base := wi64 (by omega) (by omega)
  have e2 : IntKind.wrap .i64 (base + off) = base + off := wi64 (by omega) (by omega)
  by_cases c2 : 2147483648 ≤ base + off
  ·rw [if_pos (.inr (.inl c2))] at hK
   refine grf (an c1 (an e1 (an e2 c2))) ?_
   exact hK
  ·by_cases c3 : base + off < 6
   ·rw [if_pos (.inr (.inr c3))] at hK
    refine grf (an c1 (an e1 (an e2 (an c2 c3)))) ?_
    exact hK
   ·rw [if_neg (by omega)] at hK
    refine grf (an c1 (an e1 (an e2 (an c2 c3)))) ?_
    exact hK
def truthP (t : Bool) : Int := if t then 1 else 0
theorem g_interp_truth {t : Bool} (hK : G w0 L (K (u64 (truthP t)))) : G w0 L (CP Tryz.prog Fn.interp_truth [.bool t] K) := by
 refine C_interp_truth ?_
 unfold S_interp_truth
 cases t
 ·refine gr ?_
  exact hK
 ·refine gr ?_
  exact hK
def iTouch (x : IntG) (s : VwS) (i : TIns) : IntG × VwS × Int :=
 if i.op = 8 then (if (iPlace (x.r.get (m8 i.b)) i.c).2 ≠ 0 then (x, s, 2)
  else if (vRead s (iPlace (x.r.get (m8 i.b)) i.c).1).2.2 = 0 then (setR x (m8 i.a) (vRead s (iPlace (x.r.get (m8 i.b)) i.c).1).2.1, (vRead s (iPlace (x.r.get (m8 i.b)) i.c).1).1, 0)
  else (x, (vRead s (iPlace (x.r.get (m8 i.b)) i.c).1).1, (vRead s (iPlace (x.r.get (m8 i.b)) i.c).1).2.2))
 else (if (iPlace (x.r.get (m8 i.a)) i.c).2 ≠ 0 then (x, s, 2) else (x, (vWrite s (iPlace (x.r.get (m8 i.a)) i.c).1 (x.r.get (m8 i.b))).1, (vWrite s (iPlace (x.r.get (m8 i.a)) i.c).1 (x.r.get (m8 i.b))).2))
def iDo (x : IntG) (s : VwS) (i : TIns) : IntG × VwS × Int :=
 if i.op = 1 then (setR x (m8 i.a) i.n, s, 0)
 else if i.op = 2 then (setR x (m8 i.a) (x.r.get (m8 i.b)), s, 0)
 else if i.op = 3 then (setR x (m8 i.a) (IntKind.wrap .u64 (x.r.get (m8 i.b) + x.r.get (m8 i.c))), s, 0)
 else if i.op = 4 then (setR x (m8 i.a) (IntKind.wrap .u64 (x.r.get (m8 i.b) - x.r.get (m8 i.c))), s, 0)
 else if i.op = 5 then (setR x (m8 i.a) (IntKind.wrap .u64 (x.r.get (m8 i.b) * x.r.get (m8 i.c))), s, 0)
 else if i.op = 6 then (setR x (m8 i.a) (truthP (decide (x.r.get (m8 i.b) < x.r.get (m8 i.c)))), s, 0)
 else if i.op = 7 then (setR x (m8 i.a) (truthP (decide (x.r.get (m8 i.b) = x.r.get (m8 i.c)))), s, 0)
 else if i.op = 12 then ({ x with next := i.c }, s, 0)
 else if i.op = 13 then (if x.r.get (m8 i.a) = 0 then { x with next := i.c } else x, s, 0)
 else if i.op = 21 then (if x.items.length < 16 then ({ x with items := x.items ++ [x.r.get (m8 i.a)] }, s, 0) else (x, s, 5))
 else if i.op = 22 then (x, s, 13)
 else if i.op = 8 ∨ i.op = 9 then iTouch x s i
 else iTurn x s i.op
structure DoOk (x : IntG) (s : VwS) (i : TIns) : Prop where
 a : 0 ≤ i.a
 b : 0 ≤ i.b
 c : 0 ≤ i.c
 c2 : i.c ≤ 1000
 op : i.op ≠ 10 ∧ i.op ≠ 11 ∧ i.op ≠ 23
 regs : ∀ k, 0 ≤ x.r.get k
 few : x.items.length ≤ 16
 turn : TurnOk x s i.op
theorem g_interp_touch {i : TIns} (ho : DoOk x s i) (h89 : i.op = 8 ∨ i.op = 9) (hK : G w0 (ob IntGR (b, vp) (iTouch x s i).1 :: ob ViewR vp (iTouch x s i).2.1 :: M) (K (i64 (iTouch x s i).2.2))) :
  G w0 (ob IntGR (b, vp) x :: ob ViewR vp s :: M) (CP Tryz.prog Fn.interp_Interp_touch [ptr b 0, .agg #[i64 i.op, i64 i.a, i64 i.b, i64 i.c, u64 i.n], ptr b (6 + m8 i.a), u64 (x.r.get (m8 i.b))] K) := by
 refine C_interp_Interp_touch ?_
 unfold S_interp_Interp_touch
 obtain ⟨la, ea⟩ := m8_lt ho.a
 refine G.box fun q => ?_
 unfold iTouch at hK
 rcases h89 with h8 | h9
 ·rw [if_pos h8] at hK
  refine gf (eq_true h8) ?_
  refine g_interp_place (ho.regs _) ho.c ho.c2 ?_
  by_cases c : (iPlace (x.r.get (m8 i.b)) i.c).2 = 0
  ·rw [if_neg (fun g => g c)] at hK
   refine G.take1 IntGR (b, vp) ?_
   rw [IntGR_open]
   intro vl vm vo op h
   have sg := regs_seg (x := x) (vl := vl) (vm := vm) (vo := vo) (vp := vp) (op := op) (k := m8 i.a) (y := (vRead s (iPlace (x.r.get (m8 i.b)) i.c).1).2.1) la
   refine gf c ?_
   refine s_view_Read (s := s) ?_
   by_cases c2 : (vRead s (iPlace (x.r.get (m8 i.b)) i.c).1).2.2 = 0
   ·rw [if_pos c2] at hK
    repeat' (first | (with_reducible refine G.joini0 ?_) | (with_reducible refine G.joini1 ?_) | (with_reducible refine G.drew ?_) | (simp (maxSteps := 2000000) only [↓RG, RP, RB, BEq.rfl, Int.reduceEq, Int.reduceLT, Int.reduceLE, Nat.reduceEqDiff, c2]))
    refine IntGR_close b vp op (setR x (m8 i.a) (vRead s (iPlace (x.r.get (m8 i.b)) i.c).1).2.1) rfl h ?_
    exact hK.sub
   ·rw [if_neg c2] at hK
    refine gf c2 ?_
    refine IntGR_close b vp op x rfl h ?_
    exact hK.sub
  ·rw [if_pos c] at hK
   have c3 : (iPlace (x.r.get (m8 i.b)) i.c).2 = 2 := by
    unfold iPlace at c ⊢
    split
    ·rfl
    ·rename_i g; rw [if_neg g] at c; exact absurd rfl c
   rw [c3]
   refine gg ?_
   exact hK.sub
 ·have h8 : ¬ i.op = 8 := by omega
  rw [if_neg h8] at hK
  refine G.take1 IntGR (b, vp) ?_
  rw [IntGR_open]
  intro vl vm vo op h
  have nt := regs_nth (x := x) (vl := vl) (vm := vm) (vo := vo) (vp := vp) (op := op) (k := m8 i.a) la
  repeat' (first | (with_reducible refine G.joini0 ?_) | (with_reducible refine G.joini1 ?_) | (with_reducible refine G.drew ?_) | (simp (maxSteps := 2000000) only [↓RG, RP, RB, BEq.rfl, Int.reduceEq, Int.reduceLT, Int.reduceLE, Nat.reduceEqDiff, h8, eq_true h9]))
  refine g_interp_place (ho.regs _) ho.c ho.c2 ?_
  by_cases c : (iPlace (x.r.get (m8 i.a)) i.c).2 = 0
  ·rw [if_neg (fun g => g c)] at hK
   refine gf c ?_
   refine s_view_Write (s := s) ?_
   refine IntGR_close b vp op x rfl h ?_
   exact hK.sub
  ·rw [if_pos c] at hK
   have c3 : (iPlace (x.r.get (m8 i.a)) i.c).2 = 2 := by
    unfold iPlace at c ⊢
    split
    ·rfl
    ·rename_i g; rw [if_neg g] at c; exact absurd rfl c
   rw [c3]
   refine gg ?_
   refine IntGR_close b vp op x rfl h ?_
   exact hK.sub
theorem g_interp_do {i : TIns} (ho : DoOk x s i) (hK : G w0 (ob IntGR (b, vp) (iDo x s i).1 :: ob ViewR vp (iDo x s i).2.1 :: M) (K (i64 (iDo x s i).2.2))) :
  G w0 (ob IntGR (b, vp) x :: ob ViewR vp s :: M) (CP Tryz.prog Fn.interp_Interp_do [ptr b 0, .agg #[i64 i.op, i64 i.a, i64 i.b, i64 i.c, u64 i.n]] K) := by
 refine C_interp_Interp_do ?_
 unfold S_interp_Interp_do
 obtain ⟨la, ea⟩ := m8_lt ho.a
 obtain ⟨lb, eb⟩ := m8_lt ho.b
 obtain ⟨lc, ec⟩ := m8_lt ho.c
 have ixa : IxI (i.a.tmod 8) (m8 i.a) := ⟨ea⟩
 have ixb : IxI (i.b.tmod 8) (m8 i.b) := ⟨eb⟩
 have ixc : IxI (i.c.tmod 8) (m8 i.c) := ⟨ec⟩
 have ka : LtK (m8 i.a) 8 := ⟨la⟩
 have kb : LtK (m8 i.b) 8 := ⟨lb⟩
 have kc : LtK (m8 i.c) 8 := ⟨lc⟩
 obtain ⟨o10, o11, o23⟩ := ho.op
 refine G.box fun q => ?_
 refine G.take1 IntGR (b, vp) ?_
 rw [IntGR_open]
 intro vl vm vo op h
 have na := regs_nth (x := x) (vl := vl) (vm := vm) (vo := vo) (vp := vp) (op := op) la
 have nb := regs_nth (x := x) (vl := vl) (vm := vm) (vo := vo) (vp := vp) (op := op) lb
 have nc := regs_nth (x := x) (vl := vl) (vm := vm) (vo := vo) (vp := vp) (op := op) lc
 have sg := fun y => regs_seg (x := x) (vl := vl) (vm := vm) (vo := vo) (vp := vp) (op := op) (y := y) la
 unfold iDo at hK
 by_cases c1 : i.op = 1
 ·rw [if_pos c1] at hK
  repeat' (first | (with_reducible refine G.joini0 ?_) | (with_reducible refine G.joini1 ?_) | (with_reducible refine G.drew ?_) | (simp (maxSteps := 2000000) only [↓RG, RP, RB, BEq.rfl, Int.reduceEq, Int.reduceLT, Int.reduceLE, Nat.reduceEqDiff, G_ridx, eq_true c1]))
  refine IntGR_close b vp op (setR x (m8 i.a) (i.n)) rfl h ?_
  exact hK.sub
 rw [if_neg c1] at hK
 by_cases c2 : i.op = 2
 ·rw [if_pos c2] at hK
  repeat' (first | (with_reducible refine G.joini0 ?_) | (with_reducible refine G.joini1 ?_) | (with_reducible refine G.drew ?_) | (simp (maxSteps := 2000000) only [↓RG, RP, RB, BEq.rfl, Int.reduceEq, Int.reduceLT, Int.reduceLE, Nat.reduceEqDiff, G_ridx, c1, eq_true c2]))
  refine IntGR_close b vp op (setR x (m8 i.a) (x.r.get (m8 i.b))) rfl h ?_
  exact hK.sub
 rw [if_neg c2] at hK
 by_cases c3 : i.op = 3
 ·rw [if_pos c3] at hK
  repeat' (first | (with_reducible refine G.joini0 ?_) | (with_reducible refine G.joini1 ?_) | (with_reducible refine G.drew ?_) | (simp (maxSteps := 2000000) only [↓RG, RP, RB, BEq.rfl, Int.reduceEq, Int.reduceLT, Int.reduceLE, Nat.reduceEqDiff, G_ridx, c1, c2, eq_true c3]))
  refine IntGR_close b vp op (setR x (m8 i.a) (IntKind.wrap .u64 (x.r.get (m8 i.b) + x.r.get (m8 i.c)))) rfl h ?_
  exact hK.sub
 rw [if_neg c3] at hK
 by_cases c4 : i.op = 4
 ·rw [if_pos c4] at hK
  repeat' (first | (with_reducible refine G.joini0 ?_) | (with_reducible refine G.joini1 ?_) | (with_reducible refine G.drew ?_) | (simp (maxSteps := 2000000) only [↓RG, RP, RB, BEq.rfl, Int.reduceEq, Int.reduceLT, Int.reduceLE, Nat.reduceEqDiff, G_ridx, c1, c2, c3, eq_true c4]))
  refine IntGR_close b vp op (setR x (m8 i.a) (IntKind.wrap .u64 (x.r.get (m8 i.b) - x.r.get (m8 i.c)))) rfl h ?_
  exact hK.sub
 rw [if_neg c4] at hK
 by_cases c5 : i.op = 5
 ·rw [if_pos c5] at hK
  repeat' (first | (with_reducible refine G.joini0 ?_) | (with_reducible refine G.joini1 ?_) | (with_reducible refine G.drew ?_) | (simp (maxSteps := 2000000) only [↓RG, RP, RB, BEq.rfl, Int.reduceEq, Int.reduceLT, Int.reduceLE, Nat.reduceEqDiff, G_ridx, c1, c2, c3, c4, eq_true c5]))
  refine IntGR_close b vp op (setR x (m8 i.a) (IntKind.wrap .u64 (x.r.get (m8 i.b) * x.r.get (m8 i.c)))) rfl h ?_
  exact hK.sub
 rw [if_neg c5] at hK
 by_cases c6 : i.op = 6
 ·rw [if_pos c6] at hK
  repeat' (first | (with_reducible refine G.joini0 ?_) | (with_reducible refine G.joini1 ?_) | (with_reducible refine G.drew ?_) | (simp (maxSteps := 2000000) only [↓RG, RP, RB, BEq.rfl, Int.reduceEq, Int.reduceLT, Int.reduceLE, Nat.reduceEqDiff, G_ridx, c1, c2, c3, c4, c5, eq_true c6]))
  refine g_interp_truth ?_
  repeat' (first | (with_reducible refine G.joini0 ?_) | (with_reducible refine G.joini1 ?_) | (with_reducible refine G.drew ?_) | (simp (maxSteps := 2000000) only [↓RG, RP, RB, BEq.rfl, Int.reduceEq, Int.reduceLT, Int.reduceLE, Nat.reduceEqDiff]))
  refine IntGR_close b vp op (setR x (m8 i.a) (truthP (decide (x.r.get (m8 i.b) < x.r.get (m8 i.c))))) rfl h ?_
  exact hK.sub
 rw [if_neg c6] at hK
 by_cases c7 : i.op = 7
 ·rw [if_pos c7] at hK
  repeat' (first | (with_reducible refine G.joini0 ?_) | (with_reducible refine G.joini1 ?_) | (with_reducible refine G.drew ?_) | (simp (maxSteps := 2000000) only [↓RG, RP, RB, BEq.rfl, Int.reduceEq, Int.reduceLT, Int.reduceLE, Nat.reduceEqDiff, G_ridx, c1, c2, c3, c4, c5, c6, eq_true c7]))
  refine g_interp_truth ?_
  repeat' (first | (with_reducible refine G.joini0 ?_) | (with_reducible refine G.joini1 ?_) | (with_reducible refine G.drew ?_) | (simp (maxSteps := 2000000) only [↓RG, RP, RB, BEq.rfl, Int.reduceEq, Int.reduceLT, Int.reduceLE, Nat.reduceEqDiff]))
  refine IntGR_close b vp op (setR x (m8 i.a) (truthP (decide (x.r.get (m8 i.b) = x.r.get (m8 i.c))))) rfl h ?_
  exact hK.sub
 rw [if_neg c7] at hK
 by_cases c12 : i.op = 12
 ·rw [if_pos c12] at hK
  repeat' (first | (with_reducible refine G.joini0 ?_) | (with_reducible refine G.joini1 ?_) | (with_reducible refine G.drew ?_) | (simp (maxSteps := 2000000) only [↓RG, RP, RB, BEq.rfl, Int.reduceEq, Int.reduceLT, Int.reduceLE, Nat.reduceEqDiff, G_ridx, c1, c2, c3, c4, c5, c6, c7, eq_true c12]))
  refine IntGR_close b vp op { x with next := i.c } rfl h ?_
  exact hK.sub
 rw [if_neg c12] at hK
 by_cases c13 : i.op = 13
 ·rw [if_pos c13] at hK
  by_cases z : x.r.get (m8 i.a) = 0
  ·rw [if_pos z] at hK
   repeat' (first | (with_reducible refine G.joini0 ?_) | (with_reducible refine G.joini1 ?_) | (with_reducible refine G.drew ?_) | (simp (maxSteps := 2000000) only [↓RG, RP, RB, BEq.rfl, Int.reduceEq, Int.reduceLT, Int.reduceLE, Nat.reduceEqDiff, G_ridx, c1, c2, c3, c4, c5, c6, c7, c12, eq_true c13, eq_true z]))
   refine IntGR_close b vp op { x with next := i.c } rfl h ?_
   exact hK.sub
  ·rw [if_neg z] at hK
   repeat' (first | (with_reducible refine G.joini0 ?_) | (with_reducible refine G.joini1 ?_) | (with_reducible refine G.drew ?_) | (simp (maxSteps := 2000000) only [↓RG, RP, RB, BEq.rfl, Int.reduceEq, Int.reduceLT, Int.reduceLE, Nat.reduceEqDiff, G_ridx, c1, c2, c3, c4, c5, c6, c7, c12, eq_true c13, z]))
   refine IntGR_close b vp op x rfl h ?_
   exact hK.sub
 rw [if_neg c13] at hK
 by_cases c21 : i.op = 21
 ·rw [if_pos c21] at hK
  repeat' (first | (with_reducible refine G.joini0 ?_) | (with_reducible refine G.joini1 ?_) | (with_reducible refine G.drew ?_) | (simp (maxSteps := 2000000) only [↓RG, RP, RB, BEq.rfl, Int.reduceEq, Int.reduceLT, Int.reduceLE, Nat.reduceEqDiff, G_ridx, c1, c2, c3, c4, c5, c6, c7, c12, c13, eq_true c21]))
  refine g_slate_AddNum (xs := x.items) ho.few ?_
  by_cases z : x.items.length < 16
  ·rw [if_pos z] at hK
   rw [if_pos z, decide_eq_true z]
   repeat' (first | (with_reducible refine G.joini0 ?_) | (with_reducible refine G.joini1 ?_) | (with_reducible refine G.drew ?_) | (simp (maxSteps := 2000000) only [↓RG, RP, RB, BEq.rfl, Int.reduceEq, Int.reduceLT, Int.reduceLE, Nat.reduceEqDiff]))
   refine IntGR_close b vp op { x with items := x.items ++ [x.r.get (m8 i.a)] } rfl h ?_
   exact hK.sub
  ·rw [if_neg z] at hK
   rw [if_neg z, decide_eq_false z]
   repeat' (first | (with_reducible refine G.joini0 ?_) | (with_reducible refine G.joini1 ?_) | (with_reducible refine G.drew ?_) | (simp (maxSteps := 2000000) only [↓RG, RP, RB, BEq.rfl, Int.reduceEq, Int.reduceLT, Int.reduceLE, Nat.reduceEqDiff]))
   refine IntGR_close b vp op x rfl h ?_
   exact hK.sub
 rw [if_neg c21] at hK
 by_cases c22 : i.op = 22
 ·rw [if_pos c22] at hK
  repeat' (first | (with_reducible refine G.joini0 ?_) | (with_reducible refine G.joini1 ?_) | (with_reducible refine G.drew ?_) | (simp (maxSteps := 2000000) only [↓RG, RP, RB, BEq.rfl, Int.reduceEq, Int.reduceLT, Int.reduceLE, Nat.reduceEqDiff, G_ridx, c1, c2, c3, c4, c5, c6, c7, c12, c13, c21, eq_true c22]))
  refine IntGR_close b vp op x rfl h ?_
  exact hK.sub
 rw [if_neg c22] at hK
 by_cases c89 : i.op = 8 ∨ i.op = 9
 ·rw [if_pos c89] at hK
  have hfin : G w0 (own b (x.cells vl vm vo vp op) :: sl tInsE vl x.prog :: sl intE vm x.mt :: sl partE vo x.op.reverse :: ob SlateR op x.items :: own q [i64 i.op, i64 i.a, i64 i.b, i64 i.c, u64 i.n] :: ob ViewR vp s :: M) (CP Tryz.prog Fn.interp_Interp_touch [ptr b 0, .agg #[i64 i.op, i64 i.a, i64 i.b, i64 i.c, u64 i.n], ptr b (6 + m8 i.a), u64 (x.r.get (m8 i.b))] (fun x84 => K x84)) := by
   refine IntGR_close b vp op x rfl h ?_
   refine G.pickAll (As := [ob IntGR (b, vp) x, ob ViewR vp s]) ?_
   simp only [List.cons_append, List.nil_append]
   refine g_interp_touch (x := x) (s := s) ho c89 ?_
   exact hK.sub
  rcases c89 with c8 | c9
  ·repeat' (first | (with_reducible refine G.joini0 ?_) | (with_reducible refine G.joini1 ?_) | (with_reducible refine G.drew ?_) | (simp (maxSteps := 2000000) only [↓RG, RP, RB, BEq.rfl, Int.reduceEq, Int.reduceLT, Int.reduceLE, Nat.reduceEqDiff, G_ridx, c1, c2, c3, c4, c5, c6, c7, c12, c13, c21, c22, o23, eq_true c8]))
   exact hfin
  ·have c8 : ¬ i.op = 8 := by omega
   repeat' (first | (with_reducible refine G.joini0 ?_) | (with_reducible refine G.joini1 ?_) | (with_reducible refine G.drew ?_) | (simp (maxSteps := 2000000) only [↓RG, RP, RB, BEq.rfl, Int.reduceEq, Int.reduceLT, Int.reduceLE, Nat.reduceEqDiff, G_ridx, c1, c2, c3, c4, c5, c6, c7, c12, c13, c21, c22, o23, c8, eq_true c9]))
   exact hfin
 rw [if_neg c89] at hK
 have c8 : ¬ i.op = 8 := fun g => c89 (.inl g)
 have c9 : ¬ i.op = 9 := fun g => c89 (.inr g)
 repeat' (first | (with_reducible refine G.joini0 ?_) | (with_reducible refine G.joini1 ?_) | (with_reducible refine G.drew ?_) | (simp (maxSteps := 2000000) only [↓RG, RP, RB, BEq.rfl, Int.reduceEq, Int.reduceLT, Int.reduceLE, Nat.reduceEqDiff, G_ridx, c1, c2, c3, c4, c5, c6, c7, c12, c13, c21, c22, o23, c8, c9, o10, o11]))
 refine IntGR_close b vp op x rfl h ?_
 refine G.pickAll (As := [ob IntGR (b, vp) x, ob ViewR vp s]) ?_
 simp only [List.cons_append, List.nil_append]
 refine g_interp_turn (x := x) (s := s) ho.turn ?_
 exact hK.sub
abbrev IntG.ins (x : IntG) : TIns := x.prog.getD x.pos.toNat ⟨0, 0, 0, 0, 0⟩
abbrev IntG.on (x : IntG) : IntG := { x with pos := x.next, left := x.left - 1 }
abbrev IntG.failed (x : IntG) (e : Int) : IntG := { x with fin := 4, err := e }
def iStep (x : IntG) (s : VwS) : IntG × VwS × Int := iDo { x with next := x.pos + 1 } s x.ins
def iRun : Nat → IntG → VwS → IntG × VwS × Int
 | 0, x, s => (x, s, x.fin)
 | n + 1, x, s =>
  if x.fin ≠ 0 then (x, s, x.fin)
  else if x.bad ≠ 0 then (x.failed x.bad, s, 4)
  else if x.pos = x.prog.length then ({ x with fin := 2 }, s, 2)
  else if x.left = 0 then (x.failed 6, s, 4)
  else if (iStep x s).2.2 = 0 then iRun n (iStep x s).1.on (iStep x s).2.1
  else if (iStep x s).2.2 = 11 then ((iStep x s).1, (iStep x s).2.1, 1)
  else ((iStep x s).1.failed (iStep x s).2.2, (iStep x s).2.1, 4)
structure StepOk (x : IntG) (s : VwS) : Prop where
 len : x.prog.length ≤ 100000
 lo : 0 ≤ x.pos
 hi : x.pos < x.prog.length
 do_ : DoOk { x with next := x.pos + 1 } s x.ins
 left : 0 ≤ (iStep x s).1.left ∧ (iStep x s).1.left ≤ 1000
def RunOk : Nat → IntG → VwS → Prop
 | 0, x, s => x.fin ≠ 0
 | n + 1, x, s => x.fin ≠ 0 ∨ x.bad ≠ 0 ∨ x.pos = x.prog.length ∨ x.left = 0 ∨ (StepOk x s ∧ ((iStep x s).2.2 = 0 → RunOk n (iStep x s).1.on (iStep x s).2.1))
theorem iRun_fin {n : Nat} (h : x.fin ≠ 0) : iRun n x s = (x, s, x.fin) := by cases n <;> simp [iRun, h]
theorem RunOk_fin {n : Nat} (h : x.fin ≠ 0) : RunOk n x s := by cases n; exact h; exact .inl h
theorem g_interp_Run {n : Nat} (ho : RunOk n x s) (hK : G w0 (ob IntGR (b, vp) (iRun n x s).1 :: ob ViewR vp (iRun n x s).2.1 :: M) (K (i64 (iRun n x s).2.2))) :
  G w0 (ob IntGR (b, vp) x :: ob ViewR vp s :: M) (CP Tryz.prog Fn.interp_Interp_Run [ptr b 0] K) := by
 refine C_interp_Interp_Run ?_
 unfold S_interp_Interp_Run
 refine G.loop0 (σ := Nat × IntG × VwS) (fun z => ob IntGR (b, vp) z.2.1 :: ob ViewR vp z.2.2 :: M) (fun z => RunOk z.1 z.2.1 z.2.2 ∧ iRun z.1 z.2.1 z.2.2 = iRun n x s) (fun z => z.1) (n, x, s) rfl ⟨ho, rfl⟩ ?_
 rintro ⟨k, y, t⟩ ⟨hk, he⟩ J hJ
 simp only at hk he hJ ⊢
 rw [← he] at hK
 by_cases f : y.fin = 0
 ·cases k with
  | zero => exact absurd f hk
  | succ k =>
   have hend : ∀ (z : IntG) (t' : VwS), z.fin ≠ 0 → iRun (k + 1) y t = (z, t', z.fin) → G w0 (ob IntGR (b, vp) z :: ob ViewR vp t' :: M) J := fun z t' hz e =>
    hJ (k, z, t') ⟨RunOk_fin hz, by rw [iRun_fin hz, ← he, e]⟩ (by simp)
   rw [IntGR_open]
   intro vl vm vo op h
   by_cases c1 : y.bad = 0
   ·by_cases c2 : y.pos = y.prog.length
    ·repeat' (first | (with_reducible refine G.joini0 ?_) | (with_reducible refine G.joini1 ?_) | (with_reducible refine G.drew ?_) | (simp (maxSteps := 2000000) only [↓RG, RP, RB, BEq.rfl, Int.reduceEq, Int.reduceLT, Int.reduceLE, Nat.reduceEqDiff, eq_true f, eq_true c1, eq_true c2]))
     refine IntGR_close b vp op { y with fin := 2 } rfl h ?_
     exact (hend { y with fin := 2 } t (show (2 : Int) ≠ 0 by decide) (by simp [iRun, f, c1, c2])).sub
    ·by_cases c3 : y.left = 0
     ·repeat' (first | (with_reducible refine G.joini0 ?_) | (with_reducible refine G.joini1 ?_) | (with_reducible refine G.drew ?_) | (simp (maxSteps := 2000000) only [↓RG, RP, RB, BEq.rfl, Int.reduceEq, Int.reduceLT, Int.reduceLE, Nat.reduceEqDiff, eq_true f, eq_true c1, c2, eq_true c3]))
      refine IntGR_close b vp op y rfl h ?_
      refine g_interp_fail (vp := vp) (x := y) ?_
      repeat' (first | (with_reducible refine G.joini0 ?_) | (with_reducible refine G.joini1 ?_) | (with_reducible refine G.drew ?_) | (simp (maxSteps := 2000000) only [↓RG, RP, RB, BEq.rfl, Int.reduceEq, Int.reduceLT, Int.reduceLE, Nat.reduceEqDiff]))
      exact (hend { y with fin := 4, err := 6 } t (show (4 : Int) ≠ 0 by decide) (by simp [iRun, f, c1, c2, c3])).sub
     ·rcases hk with g | g | g | g | ⟨⟨k1, k2, k3, k4, k5, k6⟩, k7⟩
      ·exact absurd f g
      ·exact absurd c1 g
      ·exact absurd g c2
      ·exact absurd g c3
      have er : iRun (k + 1) y t = if (iStep y t).2.2 = 0 then iRun k (iStep y t).1.on (iStep y t).2.1 else if (iStep y t).2.2 = 11 then ((iStep y t).1, (iStep y t).2.1, 1) else ((iStep y t).1.failed (iStep y t).2.2, (iStep y t).2.1, 4) := by
       rw [iRun, if_neg (fun g => g f), if_neg (fun g => g c1), if_neg c2, if_neg c3]
      have hin : y.prog[y.pos.toNat]? = some y.ins := by
       have : y.pos.toNat < y.prog.length := by omega
       show _ = some (y.prog.getD y.pos.toNat ⟨0, 0, 0, 0, 0⟩)
       rw [List.getD_eq_getElem?_getD, List.getElem?_eq_getElem this]; rfl
      have e : Elem y.prog y.pos.toNat y.ins := ⟨hin⟩
      have ix : IxI y.pos y.pos.toNat := ⟨by omega⟩
      have ew : IntKind.wrap .i64 (y.pos + 1) = y.pos + 1 := wi64 (by omega) (by omega)
      repeat' (first | (with_reducible refine G.joini0 ?_) | (with_reducible refine G.joini1 ?_) | (with_reducible refine G.drew ?_) | (simp (maxSteps := 2000000) only [↓RG, RP, RB, BEq.rfl, Int.reduceEq, Int.reduceLT, Int.reduceLE, Nat.reduceEqDiff, eq_true f, eq_true c1, c2, c3, ew]))
      refine IntGR_close b vp op { y with next := y.pos + 1 } rfl h ?_
      refine G.pickAll (As := [ob IntGR (b, vp) { y with next := y.pos + 1 }, ob ViewR vp t]) ?_
      simp only [List.cons_append, List.nil_append]
      refine g_interp_do (x := { y with next := y.pos + 1 }) (s := t) (i := y.ins) k4 ?_
      rw [show iDo { y with next := y.pos + 1 } t y.ins = iStep y t from rfl]
      generalize iStep y t = d at er k5 k6 k7
      obtain ⟨z, t2, q⟩ := d
      simp only at er k5 k6 k7 ⊢
      by_cases c4 : q = 0
      ·rw [if_pos c4] at er
       have el : IntKind.wrap .i64 (z.left - 1) = z.left - 1 := wi64 (by omega) (by omega)
       rw [IntGR_open]
       intro vl vm vo op h
       repeat' (first | (with_reducible refine G.joini0 ?_) | (with_reducible refine G.joini1 ?_) | (with_reducible refine G.drew ?_) | (simp (maxSteps := 2000000) only [↓RG, RP, RB, BEq.rfl, Int.reduceEq, Int.reduceLT, Int.reduceLE, Nat.reduceEqDiff, eq_true c4, el]))
       refine IntGR_close b vp op { z with pos := z.next, left := z.left - 1 } rfl h ?_
       exact (hJ (k, { z with pos := z.next, left := z.left - 1 }, t2) ⟨k7 c4, by rw [← he, er]⟩ (by simp)).sub
      ·rw [if_neg c4] at er
       by_cases c5 : q = 11
       ·rw [if_pos c5] at er
        rw [er] at hK
        refine gf (an c4 (eq_true c5)) ?_
        exact hK.sub
       ·rw [if_neg c5] at er
        refine gf (an c4 c5) ?_
        refine g_interp_fail (vp := vp) (x := z) ?_
        repeat' (first | (with_reducible refine G.joini0 ?_) | (with_reducible refine G.joini1 ?_) | (with_reducible refine G.drew ?_) | (simp (maxSteps := 2000000) only [↓RG, RP, RB, BEq.rfl, Int.reduceEq, Int.reduceLT, Int.reduceLE, Nat.reduceEqDiff]))
        exact (hend { z with fin := 4, err := q } t2 (show (4 : Int) ≠ 0 by decide) er).sub
   ·repeat' (first | (with_reducible refine G.joini0 ?_) | (with_reducible refine G.joini1 ?_) | (with_reducible refine G.drew ?_) | (simp (maxSteps := 2000000) only [↓RG, RP, RB, BEq.rfl, Int.reduceEq, Int.reduceLT, Int.reduceLE, Nat.reduceEqDiff, eq_true f, c1]))
    refine IntGR_close b vp op y rfl h ?_
    refine g_interp_fail (vp := vp) (x := y) ?_
    repeat' (first | (with_reducible refine G.joini0 ?_) | (with_reducible refine G.joini1 ?_) | (with_reducible refine G.drew ?_) | (simp (maxSteps := 2000000) only [↓RG, RP, RB, BEq.rfl, Int.reduceEq, Int.reduceLT, Int.reduceLE, Nat.reduceEqDiff]))
    exact (hend { y with fin := 4, err := y.bad } t (show (4 : Int) ≠ 0 by decide) (by simp [iRun, f, c1])).sub
 ·rw [iRun_fin f] at hK
  rw [IntGR_open] at hK ⊢
  intro vl vm vo op h
  have hK := hK vl vm vo op h
  refine gf f ?_
  exact hK
end
end Go.Proofs.YtoealglbimbbmaaGreatDoor.S
