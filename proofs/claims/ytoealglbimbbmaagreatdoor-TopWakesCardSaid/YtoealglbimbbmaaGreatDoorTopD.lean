import Derived.Test.YtoealglbimbbmaaGreatDoorBook
namespace Go.Proofs.YtoealglbimbbmaaGreatDoor.S
open Go Go.Proofs
set_option linter.unusedVariables false
set_option linter.unusedSimpArgs false
structure TIns where
 op : Int
 a : Int
 b : Int
 c : Int
 n : Int
abbrev TIns.cells (a : TIns) : List Value := [i64 a.op, i64 a.a, i64 a.b, i64 a.c, u64 a.n]
abbrev tInsE : Enc TIns := ⟨5, TIns.cells, fun | [.int .i64 x0, .int .i64 x1, .int .i64 x2, .int .i64 x3, .int .u64 x4] => some ⟨x0, x1, x2, x3, x4⟩ | _ => none, by decide, fun _ => rfl, by simp [one], fun cs a h => by split at h <;> cases h; rfl⟩
instance {a : TIns} : EncIs tInsE a [i64 a.op, i64 a.a, i64 a.b, i64 a.c, u64 a.n] := ⟨rfl⟩
structure TSet where
 words : Int
 stripes : Int
 wide : Int
 threads : Int
 start : Int
 spins : Int
 writes : Int
 fuel : Int
abbrev TSet.cells (a : TSet) : List Value := [i64 a.words, i64 a.stripes, i64 a.wide, i64 a.threads, u64 a.start, i64 a.spins, i64 a.writes, i64 a.fuel]
abbrev progE : Enc SlV := ⟨1, fun s => [s.v], fun | [.slice a n c] => some ⟨a, n, c⟩ | _ => none, by decide, fun _ => rfl, by simp [one], fun cs a h => by split at h <;> cases h; rfl⟩
instance {s : SlV} : EncIs progE s [.slice s.a s.n s.c] := ⟨rfl⟩
structure TRes where
 kind : Int
 err : Int
 slate : ByteArray
 stamp : Int
abbrev TRes.cells (a : TRes) : List Value := [i64 a.kind, i64 a.err, .string a.slate, u64 a.stamp]
abbrev tResE : Enc TRes := ⟨4, TRes.cells, fun | [.int .i64 x0, .int .i64 x1, .string x2, .int .u64 x3] => some ⟨x0, x1, x2, x3⟩ | _ => none, by decide, fun _ => rfl, by simp [one], fun cs a h => by split at h <;> cases h; rfl⟩
instance {a : TRes} : EncIs tResE a [i64 a.kind, i64 a.err, .string a.slate, u64 a.stamp] := ⟨rfl⟩
structure TAtt where
 thread : Int
 job : Int
 try_ : Int
 sweep : Bool
 kind : Int
 err : Int
 begin_ : Int
 stamp : Int
 born : Int
 ended : Int
 reads : SlV
 cells_ : SlV
 frees : SlV
 slate : ByteArray
abbrev TAtt.cells (a : TAtt) : List Value := [i64 a.thread, i64 a.job, i64 a.try_, .bool a.sweep, i64 a.kind, i64 a.err, u64 a.begin_, u64 a.stamp, i64 a.born, i64 a.ended, .slice a.reads.a a.reads.n a.reads.c, .slice a.cells_.a a.cells_.n a.cells_.c, .slice a.frees.a a.frees.n a.frees.c, .string a.slate]
abbrev tAttE : Enc TAtt := ⟨14, TAtt.cells, fun | [.int .i64 x0, .int .i64 x1, .int .i64 x2, .bool x3, .int .i64 x4, .int .i64 x5, .int .u64 x6, .int .u64 x7, .int .i64 x8, .int .i64 x9, .slice a b c, .slice d e f, .slice g h i, .string x] => some ⟨x0, x1, x2, x3, x4, x5, x6, x7, x8, x9, ⟨a, b, c⟩, ⟨d, e, f⟩, ⟨g, h, i⟩, x⟩ | _ => none, by decide, fun _ => rfl, by simp [one], fun cs a h => by split at h <;> cases h; rfl⟩
instance {a : TAtt} : EncIs tAttE a (TAtt.cells a) := ⟨rfl⟩
abbrev anyE : Enc Int := ⟨1, fun n => [.iface 22 (u64 n)], fun | [.iface 22 (.int .u64 n)] => some n | _ => none, by decide, fun _ => rfl, by simp [one], fun cs a h => by split at h <;> simp_all⟩
instance {n : Int} : EncIs anyE n [.iface 22 (u64 n)] := ⟨rfl⟩
instance {n : Int} : DecIs anyE [.iface 22 (u64 n)] n := ⟨rfl⟩
abbrev strE : Enc ByteArray := ⟨1, fun s => [.string s], fun | [.string s] => some s | _ => none, by decide, fun _ => rfl, by simp [one], fun cs a h => by split at h <;> simp_all⟩
instance {s : ByteArray} : EncIs strE s [.string s] := ⟨rfl⟩
instance {s : ByteArray} : DecIs strE [.string s] s := ⟨rfl⟩
theorem G.isSl {α : Type} {E : Enc α} {w0 : Base} {L : List Asn} {F : World → Prop} {v : Value} {sz : Nat} {xs : List α} [r : Rd w0 L v E sz xs] (h : ∀ s : SlV, v = s.v → G w0 L F) : G w0 L F := fun w H => by
 obtain ⟨oa, cap, e, _⟩ := r.rd w H
 exact h ⟨oa, xs.length, cap⟩ e w H
theorem clone_core {α : Type} {E : Enc α} {w0 : Base} {L : List Asn} {K : KV} {v : Value} {sz bytes : Nat} {xs : List α} {z : List Value} [r : Rd w0 L v E sz xs] (hl : xs.length * bytes ≤ 140737488355328) (hl2 : xs.length ≤ maxLen) (hK : ∀ u, Cells u [u] → G w0 (sl E u xs :: L) (K u)) :
  G w0 L (eqNilSliceW .eql v (.slice none 0 0) (fun x1 => condP x1 (K (.slice none 0 0)) (buildSliceW z 0 [] (fun x2 => appendW sz bytes x2 v K)))) := by
 refine G.isNil fun t ht => ?_
 refine G.cond (fun h => ?_) (fun h => ?_)
 ·have := ht h
  subst this
  exact G.nilsl E (hK _ cells_slice)
 ·refine G.build E [] rfl (by simp) rfl fun y _ => ?_
  refine G.append (by simpa using hl) (by simpa using hl2) fun u hu => ?_
  exact hK u hu
section
variable {w0 : Base} {L : List Asn} {K : KV} {v : Value} {sz : Nat} {C : Asn → List Asn} {b : Nat}
theorem s_slices_Clone_any_any {xs : List Int} [r : Rd w0 L v anyE sz xs] (hl : xs.length ≤ 1000000) (hK : ∀ u, Cells u [u] → G w0 (sl anyE u xs :: L) (K u)) : G w0 L (CP Tryz.prog Fn.slices_Clone_any_any [v] K) := by
 have z1 := r.sz
 subst z1
 exact C_slices_Clone_any_any (clone_core (E := anyE) (by omega) (by simp [maxLen]; omega) hK)
theorem s_slices_Clone_api_Ins_api_Ins {xs : List TIns} [r : Rd w0 L v tInsE sz xs] (hl : xs.length ≤ 1000000) (hK : ∀ u, Cells u [u] → G w0 (sl tInsE u xs :: L) (K u)) : G w0 L (CP Tryz.prog Fn.slices_Clone_api_Ins_api_Ins [v] K) := by
 have z1 := r.sz
 subst z1
 exact C_slices_Clone_api_Ins_api_Ins (clone_core (E := tInsE) (by omega) (by simp [maxLen]; omega) hK)
theorem s_slices_Clone_api_Result_api_Result {xs : List TRes} [r : Rd w0 L v tResE sz xs] (hl : xs.length ≤ 1000000) (hK : ∀ u, Cells u [u] → G w0 (sl tResE u xs :: L) (K u)) : G w0 L (CP Tryz.prog Fn.slices_Clone_api_Result_api_Result [v] K) := by
 have z1 := r.sz
 subst z1
 exact C_slices_Clone_api_Result_api_Result (clone_core (E := tResE) (by omega) (by simp [maxLen]; omega) hK)
abbrev SlateR := BoxR anyE
variable {xs : List Int}
theorem s_slate_New (hK : ∀ b, G w0 (ob SlateR b [] :: L) (K (ptr b 0))) : G w0 L (CP Tryz.prog Fn.slate_New [] K) := by
 refine C_slate_New ?_
 unfold S_slate_New
 refine gr ?_
 refine G.nilsl anyE ?_
 refine G.box fun b => ?_
 have h := hK b
 rw [BoxR_open] at h
 exact h _ cells_slice
theorem s_slate_Slate_AddNum {n : Int} [i : SelOb L SlateR b xs C] (hl : xs.length < 16) (hK : G w0 (C (ob SlateR b (xs ++ [n]))) (K (.bool true))) : G w0 L (CP Tryz.prog Fn.slate_Slate_AddNum [ptr b 0, u64 n] K) := by
 refine i.use (fun M hK => ?_) hK
 refine C_slate_Slate_AddNum ?_
 unfold S_slate_Slate_AddNum
 refine gr ?_
 refine C_slate_Slate_add ?_
 unfold S_slate_Slate_add
 rw [BoxR_open]
 intro v hv
 have h16 : ¬ (16 : Int) ≤ xs.length := by omega
 refine grf h16 ?_
 refine G.append1 (E := anyE) (a := n) rfl rfl (by decide) (by omega) (by simp only [maxLen]; omega) fun u hu => ?_
 refine gr ?_
 rw [BoxR_open] at hK
 exact (hK u hu).sub
theorem s_slate_Slate_Copy [i : SelOb L SlateR b xs C] (hl : xs.length ≤ 1000000) (hK : ∀ c, G w0 (ob SlateR c xs :: L) (K (ptr c 0))) : G w0 L (CP Tryz.prog Fn.slate_Slate_Copy [ptr b 0] K) := by
 refine i.roN (P := fun _ => True) (N := fun c => ob SlateR c xs) (F' := fun c => K (ptr c 0)) (fun M hK => ?_) (fun c _ => hK c)
 refine C_slate_Slate_Copy ?_
 unfold S_slate_Slate_Copy
 rw [BoxR_open]
 intro v hv
 refine gr ?_
 refine s_slices_Clone_any_any (xs := xs) hl fun u hu => ?_
 refine gr ?_
 refine G.box fun c => ?_
 have h := hK c trivial
 rw [BoxR_open] at h
 have h := h u hu
 have h2 : G w0 (ob SlateR b xs :: own c [u] :: sl anyE u xs :: M) (K (ptr c 0)) := h.sub
 rw [BoxR_open] at h2
 exact (h2 v hv).sub
def digitV (n : Int) : ByteArray := (⟨#[48, 49, 50, 51, 52, 53, 54, 55, 56, 57, 97, 98, 99, 100, 101, 102, 103, 104, 105, 106, 107, 108, 109, 110, 111, 112, 113, 114, 115, 116, 117, 118, 119, 120, 121, 122]⟩ : ByteArray).extract n.toNat (n + 1).toNat
theorem s_slate_word {n : Int} (h0 : 0 ≤ n) (h9 : n < 10) (hK : G w0 L (K (.string (digitV n)))) : G w0 L (CP Tryz.prog Fn.slate_word [.iface 22 (u64 n)] K) := by
 refine C_slate_word ?_
 unfold S_slate_word
 have ha : ∀ (K' : KV), G w0 L (assertW 22 (u64 0) (.iface 22 (u64 n)) K') = G w0 L (K' (.tuple #[u64 n, .bool true])) := fun K' => by
  congr 1
 rw [ha]
 refine gr ?_
 refine C_strconv_FormatUint ?_
 unfold S_strconv_FormatUint
 refine C_internal_strconv_FormatUint ?_
 unfold S_internal_strconv_FormatUint
 have h100 : n < 100 := by omega
 refine grf h100 ?_
 rw [wi64 (n := n) (by omega) (by omega)]
 refine C_internal_strconv_small ?_
 unfold S_internal_strconv_small
 refine grf h9 ?_
 rw [wi64 (n := n + 1) (by omega) (by omega)]
 intro w H
 exact ⟨h0, by omega, by show n + 1 ≤ 36; omega, hK w H⟩
def textV : List Int → ByteArray
 | [] => ⟨#[]⟩
 | n :: _ => digitV n
theorem s_slate_Slate_Text [i : SelOb L SlateR b xs C] (h1 : xs.length = 1) (h0 : ∀ n ∈ xs, 0 ≤ n ∧ n < 10) (hK : G w0 L (K (.string (textV xs)))) : G w0 L (CP Tryz.prog Fn.slate_Slate_Text [ptr b 0] K) := by
 refine i.ro (fun M hK => ?_) hK
 obtain ⟨n, rfl⟩ : ∃ n, xs = [n] := by
  match xs, h1 with
  | [n], _ => exact ⟨n, rfl⟩
 have hn := h0 n (by simp)
 refine C_slate_Slate_Text ?_
 unfold S_slate_Slate_Text
 rw [BoxR_open] at *
 intro v hv
 have hK := hK v hv
 refine gr ?_
 rw [show i64 (([n] : List Int).length : Int) = i64 ((1 : Nat) : Int) from rfl]
 refine G.make strE ⟨#[]⟩ rfl (by decide) (by decide) fun u hu => ?_
 refine gr ?_
 refine G.loop1 (fun k : Nat => i64 k) (fun k => sl strE u (if k = 0 then [⟨#[]⟩] else [digitV n]) :: own b [v] :: sl anyE v [n] :: M) (fun k => k ≤ 1) (fun k => 1 - k) 0 rfl rfl (by simp) ?_
 intro k hk J hJ
 obtain rfl | rfl : k = 0 ∨ k = 1 := by omega
 ·have c0 : ((((0 : Nat) : Int) < (([n] : List Int).length : Int))) = True := by simp
  simp only [if_true]
  refine grf c0 ?_
  refine s_slate_word hn.1 hn.2 ?_
  refine gr ?_
  rw [wsucc (by omega)]
  have hJ1 : G w0 (sl strE u [digitV n] :: own b [v] :: sl anyE v [n] :: M) (J (i64 ((0 + 1 : Nat) : Int))) := hJ 1 (by omega) (by omega)
  exact hJ1
 ·have c0 : ((((1 : Nat) : Int) < (([n] : List Int).length : Int))) = False := by simp
  simp only [Nat.one_ne_zero, if_false]
  refine grf c0 ?_
  refine C_strings_Join ?_
  unfold S_strings_Join
  have c1 : (((([digitV n] : List ByteArray).length : Int)) = 0) = False := by simp
  have c2 : (((([digitV n] : List ByteArray).length : Int)) = 1) = True := by simp
  refine grf (an c1 c2) ?_
  exact hK.sub
end
end Go.Proofs.YtoealglbimbbmaaGreatDoor.S
