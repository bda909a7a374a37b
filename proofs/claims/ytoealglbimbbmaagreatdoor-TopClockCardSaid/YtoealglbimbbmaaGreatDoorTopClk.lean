/-
  TOPCLOCK: the machine's picks as plain steps; awake; till it rests; the law.
-/
import Derived.Test.YtoealglbimbbmaaGreatDoorClr
namespace Go.Proofs.YtoealglbimbbmaaGreatDoor.S
open Go Go.Proofs
set_option linter.unusedVariables false
set_option linter.unusedSimpArgs false

/-- the machine stands for a plain state; behind so many picks; so many attempts of thread 0 have ended -/
structure MacRel (P : Pr) (N c0 : Nat) (x : MacS) (m : AM) (me ot : Nat) (a b : AT) : Prop where
  mem : RM P x.mem m
  len : x.thr.length = P.n
  thr : ∀ i, i < P.n → ∃ t, x.thr[i]? = some t ∧ RT P i t (if i = me then a else b) ∧ t.past ≤ N ∧ (i = 0 → t.past = c0)
  picks : 0 ≤ x.picks ∧ x.picks ≤ N
theorem MacRel.swap {P : Pr} {N c0 : Nat} {x : MacS} {m : AM} {me ot : Nat} {a b : AT} (hP : PrOk P) (ho : Pair me ot) (h : MacRel P N c0 x m me ot a b) : MacRel P N c0 x m ot me b a :=
  ⟨h.mem, h.len, fun i hi => by
    obtain ⟨t, h1, h2, h3⟩ := h.thr i hi
    refine ⟨t, h1, ?_, h3⟩
    have hn := hP.n
    by_cases c : i = me
    · rw [if_pos c] at h2; rw [if_neg (by omega)]; exact h2
    · rw [if_neg c] at h2; rw [if_pos (by omega)]; exact h2, h.picks⟩

theorem pick_ok {P : Pr} {N c0 : Nat} {x : MacS} {m : AM} {me ot : Nat} {a b : AT} {draw : Int} (hP : PrOk P) (ho : Pair me ot) (hN : N < 1000000) (h : Inv P m me ot a b) (hme : me < P.n) (hr : MacRel P N c0 x m me ot a b) (d0 : 0 ≤ draw) :
    ∃ t, x.thr[me]? = some t ∧ PickOk P.c (rdoOf P me a.job) x me t ∧ ∃ p, 0 ≤ p ∧ p ≤ 8 ∧
      MacRel P (N + 1) (c0 + (if me = 0 then isGo a.ph else 0)) (if (thrNext t).2 = true then macTell P.c (rdoOf P me a.job) x me t draw else macRest x me t) (stepT P me m a p).1 me ot (stepT P me m a p).2 b := by
  obtain ⟨t, h1, h2, h3, h4⟩ := hr.thr me hme
  rw [if_pos rfl] at h2
  have hn := hP.n
  obtain ⟨⟨s5, s4⟩, s1, hj, hs⟩ := step_rel (draw := draw) (pick := x.picks + 1) hP ho h hme hr.mem h2 d0
  have hpk := hr.picks
  have hlen := hr.len
  have hoth : ∀ k u, x.thr[k]? = some u → k ≠ me → u.state ≠ 4 ∧ ∀ a, u.now = some a → a.rd.length ≤ 1000 := fun k u hu hk => by
    have hlt := (List.getElem?_eq_some_iff.1 hu).1
    obtain ⟨u', g1, g2, g3⟩ := hr.thr k (by omega)
    rw [hu] at g1
    cases g1
    exact ⟨g2.st4, g2.rd⟩
  -- the others stay
  have hset : ∀ (t' : ThrS) (a' : AT) (c0' : Nat), RT P me t' a' → t'.past ≤ N + 1 → (me = 0 → t'.past = c0') → (me ≠ 0 → c0' = c0) → ∀ i, i < P.n → ∃ u, (x.thr.set me t')[i]? = some u ∧ RT P i u (if i = me then a' else b) ∧ u.past ≤ N + 1 ∧ (i = 0 → u.past = c0') := fun t' a' c0' g1 g2 g3 g4 i hi => by
    by_cases c : i = me
    · subst c
      exact ⟨t', List.getElem?_set_self (by omega), by rw [if_pos rfl]; exact g1, g2, g3⟩
    · obtain ⟨u, e1, e2, e3, e4⟩ := hr.thr i hi
      refine ⟨u, by rw [List.getElem?_set_ne (fun g => c g.symm)]; exact e1, by rw [if_neg c] at e2 ⊢; exact e2, by omega, fun g => ?_⟩
      rw [e4 g, g4 (fun g2 => c (by omega))]
  refine ⟨t, h1, ⟨h1, by omega, ⟨hpk.1, by omega⟩, s5, s1, hj, fun g => ?_, fun g => ?_, hoth⟩, ?_⟩
  · rcases hs with hs | hs
    · exact hs.pauses
    · rw [hs.did] at g; cases g
  · rcases hs with hs | hs
    · rw [hs.did] at g; cases g
    · exact hs.hear (by omega)
  · rcases hs with hs | hs
    · have e : (if (thrNext t).2 = true then macTell P.c (rdoOf P me a.job) x me t draw else macRest x me t) = macRest x me t := if_neg (by rw [hs.did]; decide)
      rw [e]
      refine ⟨0, by decide, by decide, by rw [hs.is.1]; exact hr.mem, by show (x.thr.set me _).length = _; rw [List.length_set]; exact hlen, hset _ _ _ hs.is.2 (by rw [hs.past]; omega) (fun g => ?_) (fun g => by rw [if_neg g]; rfl), by show 0 ≤ x.picks + 1 ∧ x.picks + 1 ≤ (N : Int) + 1; omega⟩
      rw [hs.past, h4 g, if_pos g]
      have hph : isGo a.ph = 0 := by
        have hp := h2.ph
        have hd := hs.did
        cases hc : a.ph <;> try rfl
        case go e er bb it =>
          rw [hc] at hp
          obtain ⟨s1', u, hu, hg⟩ := hp
          have hg : GoR me u e er bb it := hg
          exfalso
          unfold thrNext at hd
          rw [if_pos s1'] at hd
          simp only [hu] at hd
          unfold attNext at hd
          rw [if_neg (by rw [hg.st]; decide), if_neg (by rw [hg.st]; decide), if_neg (by rw [hg.st]; decide), if_pos hg.st] at hd
          cases hd
      rw [hph]; rfl
    · obtain ⟨p, p0, p8, g1, g2⟩ := hs.is
      have hgo : isGo a.ph ≤ 1 := by cases a.ph <;> simp [isGo]
      have e : (if (thrNext t).2 = true then macTell P.c (rdoOf P me a.job) x me t draw else macRest x me t) = macTell P.c (rdoOf P me a.job) x me t draw := if_pos hs.did
      rw [e]
      refine ⟨p, p0, p8, g1, by show (x.thr.set me _).length = _; rw [List.length_set]; exact hlen, hset _ _ _ g2 (by rw [hs.past]; omega) (fun g => ?_) (fun g => by rw [if_neg g]; rfl), by show 0 ≤ x.picks + 1 ∧ x.picks + 1 ≤ (N : Int) + 1; omega⟩
      rw [hs.past, h4 g, if_pos g]

/-- a new machine -/
theorem new_ok {P : Pr} {s : TSet} {rows : List (List (List TIns))} (hP : PrOk P) (hs : setHeld s rows.length = setOf P) (hl : rows.length = P.n) (hrow : ∀ i, i < P.n → rows[i]? = some (jobsOf P i)) : MacRel P 0 0 (macNew s rows) (iniM P) 0 1 (iniT P 0) (iniT P 1) := by
  have hn := hP.n
  have hc := hP.c
  have hh := heldSet_of hP
  have hthr : ∀ (l : List (List (List TIns))) (i j : Nat), (thrRows (setOf P) i l)[j]? = l[j]?.map fun r => thrNew ((i + j : Nat) : Int) (setOf P) r := by
    intro l
    induction l with
    | nil => intro i j; simp [thrRows]
    | cons r l ih =>
      intro i j
      cases j with
      | zero => simp [thrRows]
      | succ j => simp only [thrRows, List.getElem?_cons_succ, ih]; congr 2; funext r; congr 2; omega
  have hlen : ∀ (l : List (List (List TIns))) (i : Nat), (thrRows (setOf P) i l).length = l.length := by
    intro l
    induction l with
    | nil => intro i; rfl
    | cons r l ih => intro i; simp [thrRows, ih]
  unfold macNew
  rw [hs]
  refine ⟨?_, by show (thrRows (setOf P) 0 rows).length = _; rw [hlen, hl], fun i hi => ?_, by show (0 : Int) ≤ 0 ∧ (0 : Int) ≤ 0; decide⟩
  · have hsh : heldShape (setOf P).shape = (setOf P).shape := by
      have h3 := hP.start
      have hTM : TM = 4611686018427387903 := rfl
      unfold heldShape
      simp only
      rw [if_neg (by omega)]
      have e1 : held (P.n : Int) 1 4 = P.n := by unfold held; rw [if_neg (by omega), if_neg (by omega)]
      rw [e1]
      rfl
    have e1 : held (P.n : Int) 1 4 = P.n := by unfold held; rw [if_neg (by omega), if_neg (by omega)]
    have hm : newMem (setOf P).shape = ⟨(setOf P).shape, List.replicate 40 0, List.replicate 4 zeroLock, P.start, List.replicate P.n 0, 0⟩ := by
      unfold newMem
      rw [hsh]
      simp only [e1]
      rfl
    show RM P (memFill (newMem (setOf P).shape) 6) (iniM P)
    unfold memFill
    rw [if_neg (by decide), hm]
    have e2 : memStep ⟨(setOf P).shape, List.replicate 40 0, List.replicate 4 zeroLock, P.start, List.replicate P.n 0, 0⟩ ⟨2, 5, 0, 14, zeroLock, zeroLock⟩ = (⟨(setOf P).shape, (List.replicate 40 0).set 5 14, List.replicate 4 zeroLock, P.start, List.replicate P.n 0, 0⟩, zeroAns) := rfl
    refine memDo_rm ?_
    rw [e2]
    refine ⟨by simp, ?_, by simp, ?_, rfl, by simp, fun i hi => ?_⟩
    · simp only [List.getD_eq_getElem?_getD]
      rw [List.getElem?_set_ne (by omega), List.getElem?_replicate, if_pos (by omega)]
      rfl
    · have := (s_lt hP).2
      simp only [List.getD_eq_getElem?_getD]
      rw [List.getElem?_replicate, if_pos this]
      rfl
    · simp only [List.getD_eq_getElem?_getD]
      rw [List.getElem?_replicate, if_pos hi]
      unfold AM.e
      split <;> rfl
  · have e := hthr rows 0 i
    rw [hrow i hi, Nat.zero_add] at e
    refine ⟨_, e, ?_⟩
    have hag := again_rt (x := { (⟨i, heldSet (setOf P), jobsOf P i, -1, 0, 0, 0, none, 0, 0, [], 0, 0, false, 0⟩ : ThrS) with job := -1 + 1, tries := 0, conf := 0 }) (me := i) (job := 0) (res := []) hP rfl hh rfl rfl rfl (Nat.zero_le _)
    have hi2 : (if i = 0 then iniT P 0 else iniT P 1) = iniT P i := by
      split
      · rename_i e; rw [e]
      · have : i = 1 := by omega
        rw [this]
    rw [hi2]
    exact ⟨hag.1, by rw [show (thrNew (i : Int) (setOf P) (jobsOf P i)).past = 0 from hag.2.1]; exact Nat.le_refl _, fun _ => hag.2.1⟩

section
variable {w0 : Base} {L M : List Asn} {K : KV} {F : World → Prop} {C : Asn → List Asn} {b : Nat} {x : MacS} {v : Value} {P : Pr} {m : AM} {t0 t1 : AT} {N c0 : Nat}

theorem s_pick {me ot : Nat} {draw : Int} (hP : PrOk P) (ho : Pair me ot) (hN : N < 1000000) (h : Inv P m me ot t0 t1) (hme : me < P.n) (hr : MacRel P N c0 x m me ot t0 t1) (hd : 0 ≤ draw) (hd2 : draw ≤ 255) [i : SelOb L MacR b x C]
    (hK : ∀ x' p, 0 ≤ p → p ≤ 8 → MacRel P (N + 1) (c0 + (if me = 0 then isGo t0.ph else 0)) x' (stepT P me m t0 p).1 me ot (stepT P me m t0 p).2 t1 → G w0 (C (ob MacR b x')) (K (i64 0))) : G w0 L (CP Tryz.prog Fn.machine_Machine_Pick [ptr b 0, i64 me, .int .u8 draw] K) := by
  obtain ⟨t, h1, h2, p, p0, p8, h3⟩ := pick_ok (draw := draw) hP ho hN h hme hr hd
  exact s_machine_Pick (x := x) (t := t) hP.c.1 hP.c.2 h2 hd hd2 (hK _ p p0 p8 h3)

theorem s_top_adds {c : Int} (hK : ∀ s : SlV, G w0 (sl tInsE s.v (addsP c) :: L) (K (.agg #[s.v]))) : G w0 L (CP Tryz.prog Fn.top_adds [i64 c] K) := by
  refine C_top_adds ?_
  unfold S_top_adds
  refine G.new fun q => ?_
  repeat' (first | (with_reducible refine G.joini0 ?_) | (with_reducible refine G.joini1 ?_) | (with_reducible refine G.drew ?_) | (simp (maxSteps := 2000000) only [↓RG, RP, RB, BEq.rfl, Int.reduceEq, Int.reduceLT, Int.reduceLE, Nat.reduceEqDiff]))
  refine G.build tInsE (addsP c) rfl (by decide) (by kernel_rfl) fun v hv => ?_
  refine G.isSl (v := v) fun s hs => ?_
  subst hs
  repeat' (first | (with_reducible refine G.joini0 ?_) | (with_reducible refine G.joini1 ?_) | (with_reducible refine G.drew ?_) | (simp (maxSteps := 2000000) only [↓RG, RP, RB, BEq.rfl, Int.reduceEq, Int.reduceLT, Int.reduceLE, Nat.reduceEqDiff]))
  exact (hK s).sub


theorem MacRel.words (h : MacRel P N c0 x m 0 1 t0 t1) (hP : PrOk P) : Elem x.mem.w P.c.toNat m.W := by
  have h1 := h.mem.w
  have h2 := h.mem.wl
  have hc := hP.c
  rw [List.getD_eq_getElem?_getD, List.getElem?_eq_getElem (by omega)] at h1
  exact ⟨by rw [List.getElem?_eq_getElem (by omega)]; exact congrArg some h1⟩

theorem G_eqStrT {a b : ByteArray} {K : KV} (h : (a.toList == b.toList) = true) : G w0 L (eqStrW .eql (.string a) (.string b) K) = G w0 L (K (.bool true)) := by
  congr 1
  funext w
  show eqW .eql (a.toList == b.toList) K w = _
  rw [h]
  rfl

/-- rows of jobs, put together -/
theorem Rows_mk (v : Value) (l : List (SlV × List (List TIns))) {ps : List SlV} {rs : List (List (List TIns))} (hp : l.map (·.1) = ps) (hr : l.map (·.2) = rs) [PickAll [sl progE v ps, ob (BigO rowF) () l] L M] (H : G w0 (ob RowsR v rs :: M) F) : G w0 L F :=
  G.pickAll (As := [sl progE v ps, ob (BigO rowF) () l]) (by rw [Rows_open] at H; have := H l hr; rw [hp] at this; exact this)
theorem Jobs_mk (v : Value) (l : List (SlV × List TIns)) {ps : List SlV} {rs : List (List TIns)} (hp : l.map (·.1) = ps) (hr : l.map (·.2) = rs) [PickAll [sl progE v ps, ob (BigO jobF) () l] L M] (H : G w0 (ob JobsR v rs :: M) F) : G w0 L F :=
  G.pickAll (As := [sl progE v ps, ob (BigO jobF) () l]) (by rw [Jobs_open] at H; have := H l hr; rw [hp] at this; exact this)

theorem s_top_awake (hK : G w0 L (K (.bool true))) : G w0 L (CP Tryz.prog Fn.top_awake [] K) := by
  refine C_top_awake ?_
  unfold S_top_awake
  repeat' (first | (with_reducible refine G.joini0 ?_) | (with_reducible refine G.joini1 ?_) | (with_reducible refine G.drew ?_) | (simp (maxSteps := 2000000) only [↓RG, RP, RB, BEq.rfl, Int.reduceEq, Int.reduceLT, Int.reduceLE, Nat.reduceEqDiff]))
  refine s_top_adds fun sv => ?_
  refine G.build progE [sv] rfl (by decide) rfl fun u1 h1 => ?_
  refine G.isSl (v := u1) fun s1 e1 => ?_
  subst e1
  refine G.build progE [s1] rfl (by decide) rfl fun u2 h2 => ?_
  refine Big_nil (f := jobF) ?_
  refine Big_nil (f := rowF) ?_
  refine G.pickAll (As := [jobF (sv, addsP 6), ob (BigO jobF) () []]) ?_
  rw [List.cons_append, List.cons_append, List.nil_append, ← Big_snoc, List.nil_append]
  refine Jobs_mk s1.v [(sv, addsP 6)] (ps := [sv]) (rs := [addsP 6]) rfl rfl ?_
  refine G.pickAll (As := [rowF (s1, [addsP 6]), ob (BigO rowF) () []]) ?_
  rw [List.cons_append, List.cons_append, List.nil_append, ← Big_snoc, List.nil_append]
  refine Rows_mk u2 [(s1, [addsP 6])] (ps := [s1]) (rs := [[addsP 6]]) rfl rfl ?_
  refine s_machine_New (s := ⟨40, 4, 0, 0, 0, 0, 9, 20⟩) (rows := [[addsP 6]]) (by decide) (by decide) (fun r hr => ?_) h2 fun b => ?_
  · rw [List.mem_singleton.1 hr]
    exact ⟨by decide, fun p hp => by rw [List.mem_singleton.1 hp]; exact addsP_ok (by decide) (by decide)⟩
  have hrw : ∀ i, i < awP.n → ([[addsP 6]] : List (List (List TIns)))[i]? = some (jobsOf awP i) := fun i hi => by
    have hi : i < 1 := hi
    obtain rfl : i = 0 := by omega
    rfl
  have hnew := new_ok (P := awP) (s := ⟨40, 4, 0, 0, 0, 0, 9, 20⟩) (rows := [[addsP 6]]) awP_ok rfl rfl hrw
  generalize macNew ⟨40, 4, 0, 0, 0, 0, 9, 20⟩ [[addsP 6]] = x0 at hnew ⊢
  repeat' (first | (with_reducible refine G.joini0 ?_) | (with_reducible refine G.joini1 ?_) | (with_reducible refine G.drew ?_) | (simp (maxSteps := 2000000) only [↓RG, RP, RB, BEq.rfl, Int.reduceEq, Int.reduceLT, Int.reduceLE, Nat.reduceEqDiff]))
  refine G.loop1 (σ := Nat × MacS) (fun z => i64 z.1) (fun z => ob MacR b z.2 :: ob RowsR u2 [[addsP 6]] :: L) (fun z => z.1 ≤ 40 ∧ MacRel awP z.1 (arun z.1).2.2 z.2 (arun z.1).1 0 1 (arun z.1).2.1 (iniT awP 1) ∧ Inv awP (arun z.1).1 0 1 (arun z.1).2.1 (iniT awP 1)) (fun z => 40 - z.1) (0, x0) rfl rfl ⟨Nat.zero_le _, hnew, ini_inv awP_ok⟩ ?_
  rintro ⟨k, x⟩ ⟨hk, hr, hi⟩ J hJ
  simp only at hk hr hi hJ ⊢
  try simp (maxSteps := 2000000) only [↓RG, RP, RB, BEq.rfl, Int.reduceEq, Int.reduceLT, Int.reduceLE, Nat.reduceEqDiff]
  refine G.cond (fun h => ?_) (fun h => ?_)
  · have hk2 : k < 40 := by simp only [decide_eq_true_eq] at h; omega
    refine s_pick (me := 0) (ot := 1) awP_ok (.inl ⟨rfl, rfl⟩) (by omega) hi (by decide) hr (by decide) (by decide) fun x' p p0 p8 hr' => ?_
    have ed := drawless_eq (P := awP) (me := 0) (m := (arun k).1) (arun_drawless k hk2) p
    rw [ed] at hr'
    have hi' := step_inv awP_ok (.inl ⟨rfl, rfl⟩) hi (p := 0) (by decide) (by decide)
    repeat' (first | (with_reducible refine G.joini0 ?_) | (with_reducible refine G.joini1 ?_) | (with_reducible refine G.drew ?_) | (simp (maxSteps := 2000000) only [↓RG, RP, RB, BEq.rfl, Int.reduceEq, Int.reduceLT, Int.reduceLE, Nat.reduceEqDiff]))
    rw [wsucc (by omega)]
    exact (hJ (k + 1, x') ⟨hk2, hr', hi'⟩ (by simp only; omega)).sub
  · have hk2 : k = 40 := by simp only [decide_eq_false_iff_not] at h; omega
    subst hk2
    obtain ⟨a1, a2, a3, a4⟩ := arun_end
    rw [a4] at hr
    generalize arun 40 = r at *
    obtain ⟨t, g1, g2, g3, g4⟩ := hr.thr 0 (by decide)
    rw [if_pos rfl] at g2
    have hwl := hr.mem.wl
    have hel := hr.words awP_ok
    rw [a3] at hel
    have hel : Elem x.mem.w 6 1 := hel
    have hlen : x.thr.length = 1 := hr.len
    obtain ⟨t', ht⟩ := List.length_eq_one_iff.1 hlen
    have htt : t' = t := by rw [ht] at g1; simpa using g1
    subst htt
    have s6 := g2.fin a1
    have hres := g2.res
    rw [a2] at hres
    obtain ⟨r0, hr0⟩ : ∃ r0, t'.res = [r0] := by
      have := congrArg List.length hres
      simp only [List.length_map, List.length_cons, List.length_nil] at this
      exact List.length_eq_one_iff.1 this
    have hsl : r0.slate = textV [1] := by
      rw [hr0] at hres
      simp only [List.map_cons, List.map_nil, List.cons.injEq, Prod.mk.injEq, if_true] at hres
      exact hres.1.2.2
    have hrs : restsL x.thr = true := by rw [ht]; simp [restsL, s6]
    have hps : (x.thr.map (·.past)).sum = 1 := by rw [ht]; simp [g4 rfl]
    refine s_machine_Words (x := x) (by omega) fun u hu => ?_
    refine s_machine_Results (x := x) (i := 0) (t := t') (by rw [ht]; rfl) (by omega) (by rw [hr0]; simp) fun u3 h3 => ?_
    rw [hr0]
    try simp (maxSteps := 2000000) only [fuse_and, fuse_or, fuse_step, fuse_pair, fuse_in, andP_true]
    have hwl2 : (x.mem.w.length : Int) = 40 := by omega
    repeat' (first | (with_reducible refine G.joini0 ?_) | (with_reducible refine G.joini1 ?_) | (with_reducible refine G.drew ?_) | (simp (maxSteps := 2000000) only [↓RG, RP, RB, BEq.rfl, Int.reduceEq, Int.reduceLT, Int.reduceLE, Nat.reduceEqDiff, hwl2]))
    repeat' (first | (with_reducible refine G.joini0 ?_) | (with_reducible refine G.joini1 ?_) | (with_reducible refine G.drew ?_) | (simp (maxSteps := 2000000) only [↓RG, RP, RB, BEq.rfl, Int.reduceEq, Int.reduceLT, Int.reduceLE, Nat.reduceEqDiff, List.length_cons, List.length_nil, Nat.reduceAdd, Int.cast_ofNat_Int]))
    rw [hsl, show strV [49] = .string ⟨#[49]⟩ from rfl, G_eqStrT (by decide +kernel)]
    repeat' (first | (with_reducible refine G.joini0 ?_) | (with_reducible refine G.joini1 ?_) | (with_reducible refine G.drew ?_) | (simp (maxSteps := 2000000) only [↓RG, RP, RB, BEq.rfl, Int.reduceEq, Int.reduceLT, Int.reduceLE, Nat.reduceEqDiff]))
    refine s_machine_Rests (x := x) (by omega) ?_
    rw [hrs]
    repeat' (first | (with_reducible refine G.joini0 ?_) | (with_reducible refine G.joini1 ?_) | (with_reducible refine G.drew ?_) | (simp (maxSteps := 2000000) only [↓RG, RP, RB, BEq.rfl, Int.reduceEq, Int.reduceLT, Int.reduceLE, Nat.reduceEqDiff]))
    refine s_machine_Attempts (x := x) (fun t hm => ?_) (by omega) fun u5 l5 h5 hl5 => ?_
    · rw [ht, List.mem_singleton] at hm
      subst hm
      exact ⟨by omega, by have := g4 rfl; omega⟩
    have hl6 : (l5.length : Int) = 1 := by rw [hl5, hps]; rfl
    repeat' (first | (with_reducible refine G.joini0 ?_) | (with_reducible refine G.joini1 ?_) | (with_reducible refine G.drew ?_) | (simp (maxSteps := 2000000) only [↓RG, RP, RB, BEq.rfl, Int.reduceEq, Int.reduceLT, Int.reduceLE, Nat.reduceEqDiff, hl6]))
    exact hK.sub

/-! ### till it rests -/
theorem two_of {α : Type} : ∀ {l : List α}, l.length = 2 → ∃ a b, l = [a, b]
  | [a, b], _ => ⟨a, b, rfl⟩
theorem fin_rests (hP : PrOk P) (h2 : P.n = 2) (hr : MacRel P N c0 x m 0 1 t0 t1) : restsL x.thr = true ↔ (t0.ph = .fin ∧ t1.ph = .fin) := by
  obtain ⟨u0, a1, a2, _⟩ := hr.thr 0 (by omega)
  obtain ⟨u1, b1, b2, _⟩ := hr.thr 1 (by omega)
  rw [if_pos rfl] at a2
  rw [if_neg (by decide)] at b2
  have hl := hr.len
  rw [h2] at hl
  obtain ⟨p, q, hx⟩ := two_of hl
  have e : x.thr = [u0, u1] := by
    rw [hx] at a1 b1
    simp only [List.getElem?_cons_zero, List.getElem?_cons_succ, Option.some.injEq] at a1 b1
    rw [hx, a1, b1]
  rw [e]
  have s0 := a2.st4
  have s1 := b2.st4
  simp only [restsL, Bool.and_true, Bool.and_eq_true, Bool.or_eq_true, decide_eq_true_eq, s0, s1, or_false]
  exact ⟨fun h => ⟨a2.fin_of h.1, b2.fin_of h.2⟩, fun h => ⟨a2.fin h.1, b2.fin h.2⟩⟩

/-- inside a round -/
def Mid (P : Pr) (N : Nat) (m : AM) (t0 t1 : AT) (x0 : MacS) (k : Nat) (x : MacS) : Prop :=
  (k = 0 ∧ x = x0) ∨ (k = 1 ∧ ∃ p, 0 ≤ p ∧ p ≤ 8 ∧ ∃ c, MacRel P (N + 1) c x (stepT P 0 m t0 p).1 0 1 (stepT P 0 m t0 p).2 t1) ∨
  (k = 2 ∧ ∃ p q, 0 ≤ p ∧ p ≤ 8 ∧ 0 ≤ q ∧ q ≤ 8 ∧ ∃ c, MacRel P (N + 2) c x (stepT P 1 (stepT P 0 m t0 p).1 t1 q).1 0 1 (stepT P 0 m t0 p).2 (stepT P 1 (stepT P 0 m t0 p).1 t1 q).2)
/-- ahead of a round -/
def Ahead (P : Pr) (r : Nat) (x : MacS) : Prop := ∃ m t0 t1 c, MacRel P (2 * r) c x m 0 1 t0 t1 ∧ Inv P m 0 1 t0 t1 ∧ ((t0.ph = .fin ∧ t1.ph = .fin) ∨ mu P m 0 1 t0 t1 + r ≤ 30000)

theorem s_top_settled {ds : List Int} [a : Arg w0 v byteE ds] (hr1 : ∀ x ∈ ds, 0 ≤ x ∧ x ≤ 255) (hP : PrOk P) (h2 : P.n = 2) (h0 : Ahead P 0 x) [i : SelOb L MacR b x C]
    (hK : ∀ x' N m t0 t1 c, MacRel P N c x' m 0 1 t0 t1 → Inv P m 0 1 t0 t1 → t0.ph = .fin → t1.ph = .fin → G w0 (C (ob MacR b x')) (K (.bool true))) : G w0 L (CP Tryz.prog Fn.top_settled [ptr b 0, v] K) := by
  refine i.useA (ι := {x' : MacS // ∃ N m t0 t1 c, MacRel P N c x' m 0 1 t0 t1 ∧ Inv P m 0 1 t0 t1 ∧ t0.ph = .fin ∧ t1.ph = .fin}) (A' := fun x' => ob MacR b x'.1) (F' := fun _ => K (.bool true)) (fun M hK => ?_) (fun x' => ?_)
  · refine C_top_settled ?_
    unfold S_top_settled
    refine G.loop1 (σ := Nat × MacS) (fun z => i64 z.1) (fun z => ob MacR b z.2 :: M) (fun z => z.1 ≤ 200000 ∧ Ahead P z.1 z.2) (fun z => 200000 - z.1) (0, x) rfl rfl ⟨Nat.zero_le _, h0⟩ ?_
    rintro ⟨r, y⟩ ⟨hr, m, t0, t1, c, hm, hi, hmu⟩ J hJ
    simp only at hr hm hmu hJ ⊢
    have hlen := hm.len
    have hml := mu_le hP hi
    have hfr := fin_rests hP h2 hm
    try simp (maxSteps := 2000000) only [↓RG, RP, RB, BEq.rfl, Int.reduceEq, Int.reduceLT, Int.reduceLE, Nat.reduceEqDiff]
    refine G.cond (fun h => ?_) (fun h => ?_)
    · have hr2 : r < 200000 := by simp only [decide_eq_true_eq] at h; omega
      refine s_machine_Rests (x := y) (by omega) ?_
      refine G.cond (fun hc => ?_) (fun hc => ?_)
      · obtain ⟨f0, f1⟩ := hfr.1 hc
        exact hK ⟨y, _, m, t0, t1, c, hm, hi, f0, f1⟩
      · have hnf : ¬ (t0.ph = .fin ∧ t1.ph = .fin) := fun g => by rw [hfr.2 g] at hc; cases hc
        have hmu2 : mu P m 0 1 t0 t1 + r ≤ 30000 := by
          rcases hmu with g | g
          · exact absurd g hnf
          · exact g
        have hin : ∀ d : Int, 0 ≤ d → d ≤ 255 → G w0 (ob MacR b y :: M) (loopW1 (Value.int .i64 0) (fun J2 x7 => CP Tryz.prog Fn.machine_Machine_Threads [ptr b 0] (fun x8 => binIntW .lss x7 x8 (fun x9 => condP x9 (CP Tryz.prog Fn.machine_Machine_Pick [ptr b 0, x7, .int .u8 d] (fun x10 => binIntW .add x7 (Value.int .i64 1) (fun x11 => J2 x11))) (J (Value.int .i64 (IntKind.wrap .i64 ((r : Int) + 1)))))))) := by
          intro d d0 d1
          refine G.loop1 (σ := Nat × MacS) (fun z => i64 z.1) (fun z => ob MacR b z.2 :: M) (fun z => Mid P (2 * r) m t0 t1 y z.1 z.2) (fun z => 2 - z.1) (0, y) rfl rfl (.inl ⟨rfl, rfl⟩) ?_
          rintro ⟨k, x1⟩ hmid J2 hJ2
          simp only at hmid hJ2 ⊢
          refine s_machine_Threads (x := x1) ?_
          rcases hmid with ⟨rfl, rfl⟩ | ⟨rfl, p, p0, p8, c1, hm1⟩ | ⟨rfl, p, q, p0, p8, q0, q8, c2, hm2⟩
          · have hl2 : (x1.thr.length : Int) = 2 := by omega
            rw [hl2]
            have c : (((0 : Nat) : Int) < 2) = True := eq_true (by decide)
            repeat' (first | (with_reducible refine G.joini0 ?_) | (with_reducible refine G.joini1 ?_) | (with_reducible refine G.drew ?_) | (simp (maxSteps := 2000000) only [↓RG, RP, RB, BEq.rfl, Int.reduceEq, Int.reduceLT, Int.reduceLE, Nat.reduceEqDiff, c]))
            refine s_pick (me := 0) (ot := 1) hP (.inl ⟨rfl, rfl⟩) (by omega) hi (by omega) hm d0 d1 fun x' p p0 p8 hr' => ?_
            repeat' (first | (with_reducible refine G.joini0 ?_) | (with_reducible refine G.joini1 ?_) | (with_reducible refine G.drew ?_) | (simp (maxSteps := 2000000) only [↓RG, RP, RB, BEq.rfl, Int.reduceEq, Int.reduceLT, Int.reduceLE, Nat.reduceEqDiff]))
            rw [wsucc (by omega)]
            exact hJ2 (1, x') (.inr (.inl ⟨rfl, p, p0, p8, _, hr'⟩)) (by simp only; omega)
          · have i1 := step_inv hP (.inl ⟨rfl, rfl⟩) hi p0 p8
            have hl2 : (x1.thr.length : Int) = 2 := by have := hm1.len; omega
            rw [hl2]
            have c : (((1 : Nat) : Int) < 2) = True := eq_true (by decide)
            repeat' (first | (with_reducible refine G.joini0 ?_) | (with_reducible refine G.joini1 ?_) | (with_reducible refine G.drew ?_) | (simp (maxSteps := 2000000) only [↓RG, RP, RB, BEq.rfl, Int.reduceEq, Int.reduceLT, Int.reduceLE, Nat.reduceEqDiff, c]))
            refine s_pick (me := 1) (ot := 0) hP (.inr ⟨rfl, rfl⟩) (by omega) i1.swap (by omega) (hm1.swap hP (.inl ⟨rfl, rfl⟩)) d0 d1 fun x' q q0 q8 hr' => ?_
            repeat' (first | (with_reducible refine G.joini0 ?_) | (with_reducible refine G.joini1 ?_) | (with_reducible refine G.drew ?_) | (simp (maxSteps := 2000000) only [↓RG, RP, RB, BEq.rfl, Int.reduceEq, Int.reduceLT, Int.reduceLE, Nat.reduceEqDiff]))
            rw [wsucc (by omega)]
            exact hJ2 (2, x') (.inr (.inr ⟨rfl, p, q, p0, p8, q0, q8, _, hr'.swap hP (.inr ⟨rfl, rfl⟩)⟩)) (by simp only; omega)
          · have i1 := step_inv hP (.inl ⟨rfl, rfl⟩) hi p0 p8
            have i2 := step_inv hP (.inr ⟨rfl, rfl⟩) i1.swap q0 q8
            have hmr := round_mu hP hi ⟨p0, p8⟩ ⟨q0, q8⟩ hnf
            have hl2 : (x1.thr.length : Int) = 2 := by have := hm2.len; omega
            rw [hl2]
            have c : (((2 : Nat) : Int) < 2) = False := eq_false (by decide)
            repeat' (first | (with_reducible refine G.joini0 ?_) | (with_reducible refine G.joini1 ?_) | (with_reducible refine G.drew ?_) | (simp (maxSteps := 2000000) only [↓RG, RP, RB, BEq.rfl, Int.reduceEq, Int.reduceLT, Int.reduceLE, Nat.reduceEqDiff, c]))
            rw [wsucc (by omega)]
            exact hJ (r + 1, x1) ⟨hr2, _, _, _, _, hm2, i2.swap, .inr (by omega)⟩ (by simp only; omega)
        by_cases cd : ds.length = 0
        · have cd2 : (ds.length : Int) = 0 := by omega
          repeat' (first | (with_reducible refine G.joini0 ?_) | (with_reducible refine G.joini1 ?_) | (with_reducible refine G.drew ?_) | (simp (maxSteps := 2000000) only [↓RG, RP, RB, BEq.rfl, Int.reduceEq, Int.reduceLT, Int.reduceLE, Nat.reduceEqDiff, cd2]))
          exact hin 0 (by decide) (by decide)
        · have cd2 : ((0 : Int) < (ds.length : Int)) = True := eq_true (by omega)
          have hix : r % ds.length < ds.length := Nat.mod_lt _ (by omega)
          have e := elem_of hix
          have hem : ((r : Int)).tmod (ds.length : Int) = ((r % ds.length : Nat) : Int) := rfl
          obtain ⟨d0, d1⟩ := hr1 _ (List.getElem_mem hix)
          have nz : NeZ (ds.length : Int) := ⟨by omega⟩
          have ix : IxI ((r : Int).tmod (ds.length : Int)) (r % ds.length) := ⟨hem⟩
          repeat' (first | (with_reducible refine G.joini0 ?_) | (with_reducible refine G.joini1 ?_) | (with_reducible refine G.drew ?_) | (simp (maxSteps := 2000000) only [↓RG, RP, RB, BEq.rfl, Int.reduceEq, Int.reduceLT, Int.reduceLE, Nat.reduceEqDiff, cd2]))
          exact hin _ d0 d1
    · have hr2 : r = 200000 := by simp only [decide_eq_false_iff_not] at h; omega
      refine s_machine_Rests (x := y) (by omega) ?_
      have hf : t0.ph = .fin ∧ t1.ph = .fin := by
        rcases hmu with g | g
        · exact g
        · omega
      rw [hfr.2 hf]
      exact hK ⟨y, _, m, t0, t1, c, hm, hi, hf.1, hf.2⟩
  · obtain ⟨x', N, m, t0, t1, c, h1, h2, h3, h4⟩ := x'
    exact hK x' N m t0 t1 c h1 h2 h3 h4


/-! ### the law -/
theorem doneN_succ {j : Nat} {l : List (Int × Int × Int)} {r : Int × Int × Int} (h : l[j]? = some r) : doneN (j + 1) l = doneN j l + (if r.1 = 2 then 1 else 0) := by
  obtain ⟨h1, h2⟩ := List.getElem?_eq_some_iff.1 h
  unfold doneN
  rw [List.take_succ_eq_append_getElem h1, List.countP_append, h2]
  by_cases c : r.1 = 2 <;> simp [c]
/-- all are done, or the clock is at its end -/
theorem all_done {P : Pr} {T : Int} {me : Nat} {a : AT} (h : ResOk P T me a) (hT : T ≠ TM) : ∀ j, j ≤ a.res.length → doneN j a.res = j
  | 0, _ => by simp [doneN]
  | j + 1, hj => by
    have e : a.res[j]? = some a.res[j] := List.getElem?_eq_getElem (by omega)
    rw [doneN_succ e, all_done h hT j (by omega)]
    rcases h.is j _ e with g | ⟨_, _, g, _⟩
    · rw [if_pos g]
    · exact absurd g hT

/-- the results of a thread, counted -/
theorem res_at {me : Nat} {t : ThrS} {a : AT} (h : RT P me t a) {j : Nat} (hj : j < t.res.length) : ∃ r : Int × Int × Int, a.res[j]? = some r ∧ t.res[j].kind = r.1 ∧ t.res[j].err = r.2.1 := by
  have hl := congrArg List.length h.res
  simp only [List.length_map] at hl
  have e : a.res[j]? = some a.res[j] := List.getElem?_eq_getElem (by omega)
  refine ⟨_, e, ?_⟩
  have := congrArg (fun l => l[j]?) h.res
  simp only [List.getElem?_map, e, List.getElem?_eq_getElem hj, Option.map_some, Option.some.injEq, Prod.mk.injEq] at this
  exact ⟨this.1, this.2.1⟩

abbrev clkP (n : Int) (k : Nat) : Pr := ⟨8, 2, TM - n, fun _ => k, true, 2⟩
theorem clkP_ok {n : Int} {k : Nat} (h0 : 0 ≤ n) (h4 : n ≤ 4) (hk : k ≤ 5) : PrOk (clkP n k) := by
  have hTM : TM = 4611686018427387903 := rfl
  exact ⟨by show (0 : Int) ≤ 2 ∧ (2 : Int) ≤ 4; decide, by show 0 ≤ TM - n ∧ TM - n ≤ TM; omega, .inl (by show TM - (TM - n) ≤ 8; omega), .inr rfl, by show (6 : Int) ≤ 8 ∧ (8 : Int) ≤ 15; decide, by show k ≤ 6 ∧ k ≤ 6; omega⟩

set_option maxHeartbeats 2000000 in
theorem s_top_TopClock {lf jb : Int} {v : Value} {ds : List Int} [a2 : Arg w0 v byteE ds] (hn0 : inK .u8 lf) (hn1 : inK .u8 jb) (hr2 : ∀ x ∈ ds, good [.i .u8] (byteE.enc x)) (hK : G w0 L (K (.bool true))) :
    G w0 L (CP Tryz.prog Fn.top_TopClock [.int .u8 lf, .int .u8 jb, v] K) := by
  have hTM : TM = 4611686018427387903 := rfl
  have b0 := inK_u8 hn0
  have b1 := inK_u8 hn1
  have hd : ∀ x ∈ ds, 0 ≤ x ∧ x ≤ 255 := fun x hx => by
    obtain ⟨n, l, e, hw, _⟩ := good_i (hr2 x hx)
    cases e
    simpa [Lit.wf, IntKind.min, IntKind.max, IntKind.signed, IntKind.bits] using hw
  refine C_top_TopClock ?_
  unfold S_top_TopClock
  refine s_top_awake ?_
  have m1 := Int.tmod_nonneg 5 b0.1
  have m2 := Int.tmod_lt_of_pos lf (show (0 : Int) < 5 by decide)
  have m3 := Int.tmod_nonneg 6 b1.1
  have m4 := Int.tmod_lt_of_pos jb (show (0 : Int) < 6 by decide)
  try simp (maxSteps := 2000000) only [fuse_and, fuse_or, fuse_step, fuse_pair, fuse_in, andP_true]
  repeat' (first | (with_reducible refine G.joini0 ?_) | (with_reducible refine G.joini1 ?_) | (with_reducible refine G.drew ?_) | (simp (maxSteps := 2000000) only [↓RG, RP, RB, BEq.rfl, Int.reduceEq, Int.reduceLT, Int.reduceLE, Nat.reduceEqDiff]))
  generalize lf.tmod 5 = n at m1 m2 ⊢
  obtain ⟨k, hk⟩ : ∃ k : Nat, jb.tmod 6 = k := ⟨(jb.tmod 6).toNat, by omega⟩
  rw [hk] at m3 m4 ⊢
  have e1 : IntKind.wrap .i64 (k : Int) = k := wi64 (by omega) (by omega)
  have e2 : IntKind.wrap .i64 n = n := wi64 (by omega) (by omega)
  have e3 : IntKind.wrap .u64 n = n := wu64 (by omega) (by omega)
  have e4 : IntKind.wrap .u64 (4611686018427387903 - n) = TM - n := wu64 (by omega) (by omega)
  have e5 : IntKind.wrap .i64 ((k : Int) + 1) = (k : Int) + 1 := wi64 (by omega) (by omega)
  simp only [e1, e2, e3, e4, e5]
  have hP := clkP_ok (n := n) (k := k) m1 (by omega) (by omega)
  refine G.nilsl progE ?_
  refine Big_nil (f := rowF) ?_
  refine G.loop2 (σ := Nat × List (SlV × List (List TIns)) × Value) (fun z => z.2.2) (fun z => i64 z.1) (fun z => ob (BigO rowF) () z.2.1 :: sl progE z.2.2 (z.2.1.map (·.1)) :: L)
    (fun z => z.1 ≤ 2 ∧ z.2.1.map (·.2) = List.replicate z.1 (jobsOf (clkP n k) 0) ∧ z.2.1.length = z.1 ∧ Cells z.2.2 [z.2.2]) (fun z => 2 - z.1) (0, [], .slice none 0 0) rfl rfl rfl ⟨Nat.zero_le _, rfl, rfl, cells_slice⟩ ?_
  rintro ⟨j, l, vl⟩ ⟨hj, hl, hll, hvl⟩ J hJ
  simp only at hj hl hll hvl hJ ⊢
  try simp (maxSteps := 2000000) only [↓RG, RP, RB, BEq.rfl, Int.reduceEq, Int.reduceLT, Int.reduceLE, Nat.reduceEqDiff]
  refine G.cond (fun h => ?_) (fun h => ?_)
  · have hj2 : j < 2 := by simp only [decide_eq_true_eq] at h; omega
    refine G.nilsl progE ?_
    refine Big_nil (f := jobF) ?_
    refine G.loop2 (σ := Nat × List (SlV × List TIns) × Value) (fun z => z.2.2) (fun z => i64 z.1) (fun z => ob (BigO jobF) () z.2.1 :: sl progE z.2.2 (z.2.1.map (·.1)) :: ob (BigO rowF) () l :: sl progE vl (l.map (·.1)) :: L)
      (fun z => z.1 ≤ k ∧ z.2.1.map (·.2) = List.replicate z.1 (addsP 8) ∧ z.2.1.length = z.1 ∧ Cells z.2.2 [z.2.2]) (fun z => k - z.1) (0, [], .slice none 0 0) rfl rfl rfl ⟨Nat.zero_le _, rfl, rfl, cells_slice⟩ ?_
    rintro ⟨i, jl, vj⟩ ⟨hi, hjl, hjll, hvj⟩ J2 hJ2
    simp only at hi hjl hjll hvj hJ2 ⊢
    try simp (maxSteps := 2000000) only [↓RG, RP, RB, BEq.rfl, Int.reduceEq, Int.reduceLT, Int.reduceLE, Nat.reduceEqDiff]
    refine G.cond (fun h => ?_) (fun h => ?_)
    · have hi2 : i < k := by simp only [decide_eq_true_eq] at h; omega
      refine s_top_adds fun sv => ?_
      refine G.build progE [sv] rfl (by decide) rfl fun y hy => ?_
      refine G.append (E := progE) (xs := jl.map (fun z : SlV × List TIns => z.1)) (ys := [sv]) (by simp only [List.length_map, List.length_singleton]; omega) (by simp only [List.length_map, List.length_singleton, maxLen]; omega) fun u5 h5 => ?_
      repeat' (first | (with_reducible refine G.joini0 ?_) | (with_reducible refine G.joini1 ?_) | (with_reducible refine G.drew ?_) | (simp (maxSteps := 2000000) only [↓RG, RP, RB, BEq.rfl, Int.reduceEq, Int.reduceLT, Int.reduceLE, Nat.reduceEqDiff]))
      rw [wsucc (by omega)]
      have hn := hJ2 (i + 1, jl ++ [(sv, addsP 8)], u5) ⟨hi2, by rw [List.map_append, hjl, List.replicate_succ']; rfl, by simp [hjll], h5⟩ (by simp only; omega)
      simp only [List.map_append, List.map_cons, List.map_nil] at hn
      refine G.pickAll (As := [jobF (sv, addsP 8), ob (BigO jobF) () jl]) ?_
      rw [List.cons_append, List.cons_append, List.nil_append, ← Big_snoc]
      exact hn.sub
    · have hi2 : i = k := by simp only [decide_eq_false_iff_not] at h; omega
      subst hi2
      refine G.build tInsE (readsP 8) rfl (by decide) (by kernel_rfl) fun y hy => ?_
      refine G.isSl (v := y) fun sv hs => ?_
      subst hs
      repeat' (first | (with_reducible refine G.joini0 ?_) | (with_reducible refine G.joini1 ?_) | (with_reducible refine G.drew ?_) | (simp (maxSteps := 2000000) only [↓RG, RP, RB, BEq.rfl, Int.reduceEq, Int.reduceLT, Int.reduceLE, Nat.reduceEqDiff]))
      refine G.build progE [sv] rfl (by decide) rfl fun y2 hy2 => ?_
      refine G.append (E := progE) (xs := jl.map (fun z : SlV × List TIns => z.1)) (ys := [sv]) (by simp only [List.length_map, List.length_singleton]; omega) (by simp only [List.length_map, List.length_singleton, maxLen]; omega) fun u5 h5 => ?_
      refine G.isSl (v := u5) fun s5 hs5 => ?_
      subst hs5
      refine G.build progE [s5] rfl (by decide) rfl fun y3 hy3 => ?_
      refine G.append (E := progE) (xs := l.map (fun z : SlV × List (List TIns) => z.1)) (ys := [s5]) (by simp only [List.length_map, List.length_singleton]; omega) (by simp only [List.length_map, List.length_singleton, maxLen]; omega) fun u6 h6 => ?_
      repeat' (first | (with_reducible refine G.joini0 ?_) | (with_reducible refine G.joini1 ?_) | (with_reducible refine G.drew ?_) | (simp (maxSteps := 2000000) only [↓RG, RP, RB, BEq.rfl, Int.reduceEq, Int.reduceLT, Int.reduceLE, Nat.reduceEqDiff]))
      rw [wsucc (by omega)]
      have hrow : jobsOf (clkP n i) 0 = List.replicate i (addsP 8) ++ [readsP 8] := rfl
      have hn := hJ (j + 1, l ++ [(s5, jobsOf (clkP n i) 0)], u6) ⟨hj2, by rw [List.map_append, hl, List.replicate_succ']; rfl, by simp [hll], h6⟩ (by simp only; omega)
      simp only [List.map_append, List.map_cons, List.map_nil] at hn
      refine G.pickAll (As := [jobF (sv, readsP 8), ob (BigO jobF) () jl]) ?_
      rw [List.cons_append, List.cons_append, List.nil_append, ← Big_snoc]
      refine Jobs_mk s5.v (jl ++ [(sv, readsP 8)]) (ps := jl.map (fun z : SlV × List TIns => z.1) ++ [sv]) (rs := jobsOf (clkP n i) 0) (by simp) (by rw [hrow, List.map_append, hjl]; rfl) ?_
      refine G.pickAll (As := [rowF (s5, jobsOf (clkP n i) 0), ob (BigO rowF) () l]) ?_
      rw [List.cons_append, List.cons_append, List.nil_append, ← Big_snoc]
      exact hn.sub
  · have hj2 : j = 2 := by simp only [decide_eq_false_iff_not] at h; omega
    subst hj2
    have hl : l.map (·.2) = [jobsOf (clkP n k) 0, jobsOf (clkP n k) 1] := hl
    refine Rows_mk vl l rfl hl ?_
    refine s_machine_New (s := ⟨40, 4, 0, 0, TM - n, 2, 9, 20⟩) (rows := [jobsOf (clkP n k) 0, jobsOf (clkP n k) 1]) (by simp) (by simp) (fun r hr => ?_) hvl fun b => ?_
    · have hk1 : (clkP n k).K 0 = k + 1 := rfl
      have hk2 : (clkP n k).K 1 = k + 1 := rfl
      rcases List.mem_cons.1 hr with e | e
      · rw [e]; exact ⟨by rw [jobs_len]; omega, jobs_ok hP⟩
      · rw [List.mem_singleton.1 e]; exact ⟨by rw [jobs_len]; omega, jobs_ok hP⟩
    have hset : setHeld ⟨40, 4, 0, 0, TM - n, 2, 9, 20⟩ 2 = setOf (clkP n k) := by
      have := heldSet_of hP
      rw [← this]
      rfl
    have hrw : ∀ i, i < 2 → ([jobsOf (clkP n k) 0, jobsOf (clkP n k) 1] : List (List (List TIns)))[i]? = some (jobsOf (clkP n k) i) := fun i hi => by
      obtain rfl | rfl : i = 0 ∨ i = 1 := by omega
      · rfl
      · rfl
    have hnew := new_ok (P := clkP n k) (s := ⟨40, 4, 0, 0, TM - n, 2, 9, 20⟩) (rows := [jobsOf (clkP n k) 0, jobsOf (clkP n k) 1]) hP hset rfl hrw
    generalize macNew ⟨40, 4, 0, 0, TM - n, 2, 9, 20⟩ [jobsOf (clkP n k) 0, jobsOf (clkP n k) 1] = x0 at hnew ⊢
    have hini := ini_inv hP
    repeat' (first | (with_reducible refine G.joini0 ?_) | (with_reducible refine G.joini1 ?_) | (with_reducible refine G.drew ?_) | (simp (maxSteps := 2000000) only [↓RG, RP, RB, BEq.rfl, Int.reduceEq, Int.reduceLT, Int.reduceLE, Nat.reduceEqDiff]))
    refine s_top_settled (P := clkP n k) hd hP rfl ⟨_, _, _, _, hnew, hini, .inr (by have := mu_le hP hini; omega)⟩ fun x N m t0 t1 c hr hi f0 f1 => ?_
    obtain ⟨r0l, r1l, hsum, hW, hT⟩ := end_of hi f0 f1
    obtain ⟨u0, a1, a2, a3, _⟩ := hr.thr 0 (by show 0 < 2; decide)
    obtain ⟨u1, b1', b2', b3, _⟩ := hr.thr 1 (by show 1 < 2; decide)
    rw [if_pos rfl] at a2
    rw [if_neg (by decide)] at b2'
    have hk1 : (clkP n k).K 0 = k + 1 := rfl
    have hk2 : (clkP n k).K 1 = k + 1 := rfl
    rw [hk1] at r0l
    rw [hk2] at r1l
    have hwl := hr.mem.wl
    have hel := hr.words hP
    have hel : Elem x.mem.w 8 m.W := hel
    have hlen : x.thr.length = 2 := hr.len
    have hclk := hr.mem.t
    repeat' (first | (with_reducible refine G.joini0 ?_) | (with_reducible refine G.joini1 ?_) | (with_reducible refine G.drew ?_) | (simp (maxSteps := 2000000) only [↓RG, RP, RB, BEq.rfl, Int.reduceEq, Int.reduceLT, Int.reduceLE, Nat.reduceEqDiff]))
    refine s_machine_Words (x := x) (by omega) fun u hu => ?_
    repeat' (first | (with_reducible refine G.joini0 ?_) | (with_reducible refine G.joini1 ?_) | (with_reducible refine G.drew ?_) | (simp (maxSteps := 2000000) only [↓RG, RP, RB, BEq.rfl, Int.reduceEq, Int.reduceLT, Int.reduceLE, Nat.reduceEqDiff]))
    obtain ⟨D, hD0, hD1, hD2⟩ : ∃ D : Nat → Nat, D 0 = 0 ∧ D 1 = doneN k t0.res ∧ D 2 = doneN k t0.res + doneN k t1.res := ⟨fun i => if i = 0 then 0 else if i = 1 then doneN k t0.res else doneN k t0.res + doneN k t1.res, rfl, rfl, rfl⟩
    have hdk0 := doneN_le k t0.res
    have hdk1 := doneN_le k t1.res
    have hall : ∀ t, t < 2 → ∃ u a, x.thr[t]? = some u ∧ RT (clkP n k) t u a ∧ a.res.length = k + 1 ∧ ResOk (clkP n k) m.T t a ∧ D (t + 1) = D t + doneN k a.res := fun t ht => by
      obtain rfl | rfl : t = 0 ∨ t = 1 := by omega
      · exact ⟨u0, t0, a1, a2, r0l, hi.ra, by rw [hD1, hD0, Nat.zero_add]⟩
      · exact ⟨u1, t1, b1', b2', r1l, hi.rb, by rw [hD2, hD1]⟩
    have hDle : ∀ t, t ≤ 2 → D t ≤ 20 := fun t ht => by
      obtain rfl | rfl | rfl : t = 0 ∨ t = 1 ∨ t = 2 := by omega
      · omega
      · omega
      · omega
    refine G.loop2 (σ := Nat) (fun t => i64 (D t)) (fun t => i64 t) (fun _ => sl wordE u x.mem.w :: ob MacR b x :: ob RowsR vl [jobsOf (clkP n k) 0, jobsOf (clkP n k) 1] :: L) (fun t => t ≤ 2) (fun t => 2 - t) 0 (by rw [hD0]; rfl) rfl rfl (Nat.zero_le _) ?_
    intro t ht J3 hJ3
    try simp (maxSteps := 2000000) only [↓RG, RP, RB, BEq.rfl, Int.reduceEq, Int.reduceLT, Int.reduceLE, Nat.reduceEqDiff]
    refine G.cond (fun h => ?_) (fun h => ?_)
    · have ht2 : t < 2 := by simp only [decide_eq_true_eq] at h; omega
      obtain ⟨w, a, g1, g2, g3, g4, g5⟩ := hall t ht2
      have hrl : w.res.length = k + 1 := by
        have := congrArg List.length g2.res
        simp only [List.length_map] at this
        omega
      have hDt := hDle t (by omega)
      refine s_machine_Results (x := x) (i := t) (t := w) g1 (by omega) (by omega) fun u3 h3 => ?_
      have hrl2 : (w.res.length : Int) = (k : Int) + 1 := by omega
      have ek : Elem w.res k w.res[k] := elem_of (by omega)
      obtain ⟨rk, q1, q2, q3⟩ := res_at g2 (j := k) (by omega)
      have hkk : w.res[k].kind = 2 := by
        rw [q2]
        rcases g4.is k rk q1 with z | ⟨_, _, _, z⟩
        · exact z
        · exact absurd z (Nat.lt_irrefl k)
      repeat' (first | (with_reducible refine G.joini0 ?_) | (with_reducible refine G.joini1 ?_) | (with_reducible refine G.drew ?_) | (simp (maxSteps := 2000000) only [↓RG, RP, RB, BEq.rfl, Int.reduceEq, Int.reduceLT, Int.reduceLE, Nat.reduceEqDiff, hrl2, eq_true hkk]))
      refine G.loop2 (σ := Nat) (fun i => i64 ((D t + doneN i a.res : Nat) : Int)) (fun i => i64 i) (fun _ => sl tResE u3 w.res :: sl wordE u x.mem.w :: ob MacR b x :: ob RowsR vl [jobsOf (clkP n k) 0, jobsOf (clkP n k) 1] :: L) (fun i => i ≤ k) (fun i => k - i) 0 (by simp [doneN]) rfl rfl (Nat.zero_le _) ?_
      intro i hi2 J4 hJ4
      try simp (maxSteps := 2000000) only [↓RG, RP, RB, BEq.rfl, Int.reduceEq, Int.reduceLT, Int.reduceLE, Nat.reduceEqDiff]
      refine G.cond (fun h => ?_) (fun h => ?_)
      · have hi3 : i < k := by simp only [decide_eq_true_eq] at h; omega
        have ei : Elem w.res i w.res[i] := elem_of (by omega)
        obtain ⟨ri, z1, z2, z3⟩ := res_at g2 (j := i) (by omega)
        have hdi := doneN_succ z1
        have hdl := doneN_le i a.res
        have hn := hJ4 (i + 1) hi3 (by omega)
        rw [hdi] at hn
        by_cases c2 : ri.1 = 2
        · rw [if_pos c2] at hn
          have c3 : w.res[i].kind = 2 := by rw [z2]; exact c2
          repeat' (first | (with_reducible refine G.joini0 ?_) | (with_reducible refine G.joini1 ?_) | (with_reducible refine G.drew ?_) | (simp (maxSteps := 2000000) only [↓RG, RP, RB, BEq.rfl, Int.reduceEq, Int.reduceLT, Int.reduceLE, Nat.reduceEqDiff, eq_true c3]))
          rw [wsucc (by omega), wsucc (by omega)]
          exact hn.sub
        · rw [if_neg c2] at hn
          obtain ⟨y1, y2, _⟩ := (g4.is i ri z1).resolve_left c2
          have c3 : ¬ w.res[i].kind = 2 := by rw [z2]; exact c2
          have c4 : w.res[i].kind = 4 := by rw [z2]; exact y1
          have c5 : w.res[i].err = 7 := by rw [z3]; exact y2
          repeat' (first | (with_reducible refine G.joini0 ?_) | (with_reducible refine G.joini1 ?_) | (with_reducible refine G.drew ?_) | (simp (maxSteps := 2000000) only [↓RG, RP, RB, BEq.rfl, Int.reduceEq, Int.reduceLT, Int.reduceLE, Nat.reduceEqDiff, c3, eq_true c4, eq_true c5]))
          rw [wsucc (by omega)]
          exact hn.sub
      · have hi3 : i = k := by simp only [decide_eq_false_iff_not] at h; omega
        subst hi3
        repeat' (first | (with_reducible refine G.joini0 ?_) | (with_reducible refine G.joini1 ?_) | (with_reducible refine G.drew ?_) | (simp (maxSteps := 2000000) only [↓RG, RP, RB, BEq.rfl, Int.reduceEq, Int.reduceLT, Int.reduceLE, Nat.reduceEqDiff]))
        rw [wsucc (by omega)]
        have hn := hJ3 (t + 1) ht2 (by omega)
        rw [g5] at hn
        exact hn.sub
    · have ht2 : t = 2 := by simp only [decide_eq_false_iff_not] at h; omega
      subst ht2
      have hDW : (D 2 : Int) = m.W := by rw [hD2]; exact_mod_cast hsum
      rw [hDW]
      have w0' := hi.g.w0
      have hWn : m.W ≤ n := by
        have : m.W ≤ m.T - (TM - n) := hW
        omega
      have e6 : IntKind.wrap .u64 m.W = m.W := wu64 (by omega) (by omega)
      have e7 : IntKind.wrap .i64 (2 * (k : Int)) = 2 * k := wi64 (by omega) (by omega)
      have hwl2 : (x.mem.w.length : Int) = 40 := by omega
      by_cases cT : m.T = TM
      · have hnow : x.mem.n = 4611686018427387903 := by rw [hclk, cT]
        repeat' (first | (with_reducible refine G.joini0 ?_) | (with_reducible refine G.joini1 ?_) | (with_reducible refine G.drew ?_) | (simp (maxSteps := 2000000) only [↓RG, RP, RB, BEq.rfl, Int.reduceEq, Int.reduceLT, Int.reduceLE, Nat.reduceEqDiff, hwl2, e6, e7, eq_true hWn]))
        refine G.any true (fun _ K hK => ?_) ?_
        · refine s_machine_Now (x := x) ?_
          repeat' (first | (with_reducible refine G.joini0 ?_) | (with_reducible refine G.joini1 ?_) | (with_reducible refine G.drew ?_) | (simp (maxSteps := 2000000) only [↓RG, RP, RB, BEq.rfl, Int.reduceEq, Int.reduceLT, Int.reduceLE, Nat.reduceEqDiff, hnow]))
          exact hK
        · simp only [Bool.or_true]
          exact hK.sub
      · have d0 := all_done hi.ra cT k (by omega)
        have d1 := all_done hi.rb cT k (by omega)
        have hW2 : m.W = 2 * k := by omega
        have c6 : (if 2 * (k : Int) < n then 2 * (k : Int) else n) = m.W := by split <;> omega
        repeat' (first | (with_reducible refine G.joini0 ?_) | (with_reducible refine G.joini1 ?_) | (with_reducible refine G.drew ?_) | (simp (maxSteps := 2000000) only [↓RG, RP, RB, BEq.rfl, Int.reduceEq, Int.reduceLT, Int.reduceLE, Nat.reduceEqDiff, hwl2, e6, e7, c6, eq_true hWn]))
        exact hK.sub

end
end Go.Proofs.YtoealglbimbbmaaGreatDoor.S
