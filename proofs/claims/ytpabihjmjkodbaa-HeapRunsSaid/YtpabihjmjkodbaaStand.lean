/-
  STANDING WORDS: the words of the plain form at known operands, as equations for simp.
-/
import Derived.Test.YtpabihjmjkodbaaSStep
import Derived.IntWalk
namespace Go.Proofs.Ytpabihjmjkodbaa.S
open Go Go.Proofs
set_option linter.unusedVariables false

abbrev ptr (b : Nat) (i : Nat := 0) : Value := .pointer (some ⟨b, i, none⟩)
abbrev i64 (n : Int) : Value := .int .i64 n
abbrev u64 (n : Int) : Value := .int .u64 n

theorem condT {A B : Prop} : condW (.bool true) A B = A := by simp [condW]
theorem condF {A B : Prop} : condW (.bool false) A B = B := by simp [condW]
theorem gTT {A : KV → World → Prop} {K : KV} {w : World} : gW (.bool true) true A K w = A K w := by simp [gW, isB]
theorem gFT {A : KV → World → Prop} {K : KV} {w : World} : gW (.bool false) true A K w = K undef w := by simp [gW, isB]
theorem gTF {A : KV → World → Prop} {K : KV} {w : World} : gW (.bool true) false A K w = K undef w := by simp [gW, isB]
theorem gFF {A : KV → World → Prop} {K : KV} {w : World} : gW (.bool false) false A K w = A K w := by simp [gW, isB]
theorem pickT {a b : Value} {K : KV} {w : World} : pickW (.bool true) a b K w = K a w := rfl
theorem pickF {a b : Value} {K : KV} {w : World} : pickW (.bool false) a b K w = K b w := rfl
theorem notB {t : Bool} {K : KV} {w : World} : notW (.bool t) K w = K (.bool (!t)) w := rfl
theorem loadAt {w : World} {b i : Nat} {cs : List Value} {v : Value} {K : KV} (h : mem w b = some cs) (hi : cs[i]? = some v) : load1W (ptr b i) K w = K v w := by simp [load1W, h, hi, onSome]
theorem addAt {b i n : Nat} {K : KV} {w : World} : addW n (ptr b i) K w = K (ptr b (i + n)) w := rfl
theorem nilAt {b i : Nat} {K : KV} {w : World} : nilW (ptr b i) K w = K (ptr b i) w := rfl
theorem ltII {a b : Int} {K : KV} {w : World} : binIntW .lss (i64 a) (i64 b) K w = K (.bool (decide (a < b))) w := by simp [binIntW, intBin, onSome]
theorem leII {a b : Int} {K : KV} {w : World} : binIntW .leq (i64 a) (i64 b) K w = K (.bool (decide (a ≤ b))) w := by simp [binIntW, intBin, onSome]
theorem gtII {a b : Int} {K : KV} {w : World} : binIntW .gtr (i64 a) (i64 b) K w = K (.bool (decide (b < a))) w := by simp [binIntW, intBin, onSome]
theorem geII {a b : Int} {K : KV} {w : World} : binIntW .geq (i64 a) (i64 b) K w = K (.bool (decide (b ≤ a))) w := by simp [binIntW, intBin, onSome]
theorem eqII {a b : Int} {K : KV} {w : World} : binIntW .eql (i64 a) (i64 b) K w = K (.bool (a == b)) w := by simp [binIntW, intBin, onSome]
theorem neII {a b : Int} {K : KV} {w : World} : binIntW .neq (i64 a) (i64 b) K w = K (.bool (a != b)) w := by simp [binIntW, intBin, onSome]
theorem ltUU {a b : Int} {K : KV} {w : World} : binIntW .lss (u64 a) (u64 b) K w = K (.bool (decide (a < b))) w := by simp [binIntW, intBin, onSome]
theorem leUU {a b : Int} {K : KV} {w : World} : binIntW .leq (u64 a) (u64 b) K w = K (.bool (decide (a ≤ b))) w := by simp [binIntW, intBin, onSome]
theorem gtUU {a b : Int} {K : KV} {w : World} : binIntW .gtr (u64 a) (u64 b) K w = K (.bool (decide (b < a))) w := by simp [binIntW, intBin, onSome]
theorem geUU {a b : Int} {K : KV} {w : World} : binIntW .geq (u64 a) (u64 b) K w = K (.bool (decide (b ≤ a))) w := by simp [binIntW, intBin, onSome]
theorem eqUU {a b : Int} {K : KV} {w : World} : binIntW .eql (u64 a) (u64 b) K w = K (.bool (a == b)) w := by simp [binIntW, intBin, onSome]
theorem neUU {a b : Int} {K : KV} {w : World} : binIntW .neq (u64 a) (u64 b) K w = K (.bool (a != b)) w := by simp [binIntW, intBin, onSome]
theorem addII {a b : Int} {K : KV} {w : World} (h : -9223372036854775808 ≤ a + b) (h' : a + b ≤ 9223372036854775807) : binIntW .add (i64 a) (i64 b) K w = K (i64 (a + b)) w := by
  simp [binIntW, intBin, onSome, Go.IntWalk.i64_in _ ⟨h, h'⟩]
theorem eqBB {a b : Bool} {K : KV} {w : World} : binBoolW .eql (.bool a) (.bool b) K w = K (.bool (a == b)) w := rfl
theorem neBB {a b : Bool} {K : KV} {w : World} : binBoolW .neq (.bool a) (.bool b) K w = K (.bool (!(a == b))) w := rfl
theorem subII {a b : Int} {K : KV} {w : World} (h : -9223372036854775808 ≤ a - b) (h' : a - b ≤ 9223372036854775807) : binIntW .sub (i64 a) (i64 b) K w = K (i64 (a - b)) w := by
  simp [binIntW, intBin, onSome, Go.IntWalk.i64_in _ ⟨h, h'⟩]
theorem extract0 {a b : Value} {K : KV} {w : World} : extractW 0 (.tuple #[a, b]) K w = K a w := rfl
theorem extract1 {a b : Value} {K : KV} {w : World} : extractW 1 (.tuple #[a, b]) K w = K b w := rfl
theorem gUT {A : KV → World → Prop} {K : KV} {w : World} : gW undef true A K w = K undef w := by simp [gW, isB, undef]
theorem gUF {A : KV → World → Prop} {K : KV} {w : World} : gW undef false A K w = K undef w := by simp [gW, isB, undef]

end Go.Proofs.Ytpabihjmjkodbaa.S
