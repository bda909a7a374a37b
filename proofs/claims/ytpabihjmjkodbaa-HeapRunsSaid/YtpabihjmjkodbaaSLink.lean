/-
  THE PLAIN FORMS ARE THOSE OF THE TRANSLATION, by a program.
-/
import Derived.Test.YtpabihjmjkodbaaSForm
import Derived.Test.YtpabihjmjkodbaaProg
import Derived.KernelRfl
namespace Go.Proofs.Ytpabihjmjkodbaa.S
open Go Go.Proofs
set_option linter.unusedVariables false
set_option maxRecDepth 100000
noncomputable def env : Env := { P := Try.prog, eqs := fun | _ => none }
theorem env_ok : env.OK := ⟨fun _ _ h => (by cases h), (by kernel_rfl)⟩

noncomputable def N_law2_HeapRuns : Notes := { live := fun | _ => [], keep := fun | 2 => [1] | 4 => [1] | 5 => [1, 2] | 6 => [1, 2, 3, 4] | 7 => [1, 2, 3, 4, 6] | 8 => [1, 2, 3, 4, 6, 8] | _ => [], rest := fun | _ => [], plan := fun | _ => ⟨[], [], .done⟩ }
theorem E_law2_HeapRuns (K : KV) (w : World) : S_law2_HeapRuns K w = evalF env N_law2_HeapRuns Try.f3 [] K w := by kernel_rfl
theorem L_law2_HeapRuns {K : KV} {w : World} (h : S_law2_HeapRuns K w) : CP Try.prog Fn.law2_HeapRuns [] K w := evalF_sound env_ok N_law2_HeapRuns Try.func3 (by kernel_rfl) (Eq.mp (E_law2_HeapRuns K w) h)

noncomputable def N_law2_HeapPlays : Notes := { live := fun | _ => [], keep := fun | 0 => [0, 1] | 1 => [0, 1] | 3 => [0, 1] | 4 => [0, 1, 5] | _ => [], rest := fun | _ => [], plan := fun | _ => ⟨[], [], .done⟩ }
theorem E_law2_HeapPlays (a0 a1 : Value) (K : KV) (w : World) : S_law2_HeapPlays a0 a1 K w = evalF env N_law2_HeapPlays Try.f4 [a0, a1] K w := by kernel_rfl
theorem L_law2_HeapPlays {a0 a1 : Value} {K : KV} {w : World} (h : S_law2_HeapPlays a0 a1 K w) : CP Try.prog Fn.law2_HeapPlays [a0, a1] K w := evalF_sound env_ok N_law2_HeapPlays Try.func4 (by kernel_rfl) (Eq.mp (E_law2_HeapPlays a0 a1 K w) h)

noncomputable def N_law2_HeapCopies : Notes := { live := fun | _ => [], keep := fun | 0 => [0, 1, 2, 3] | 1 => [0, 1, 2, 3] | 3 => [0, 1, 2, 3] | 4 => [0, 1, 2, 3, 9] | 6 => [0, 1, 2, 3, 9] | 7 => [1, 2, 3, 9, 10] | 9 => [2, 3, 9, 10] | 10 => [2, 3, 9, 10, 11] | 11 => [2, 3, 9, 10, 11, 12] | _ => [], rest := fun | _ => [], plan := fun | _ => ⟨[], [], .done⟩ }
theorem E_law2_HeapCopies (a0 a1 a2 a3 : Value) (K : KV) (w : World) : S_law2_HeapCopies a0 a1 a2 a3 K w = evalF env N_law2_HeapCopies Try.f5 [a0, a1, a2, a3] K w := by kernel_rfl
theorem L_law2_HeapCopies {a0 a1 a2 a3 : Value} {K : KV} {w : World} (h : S_law2_HeapCopies a0 a1 a2 a3 K w) : CP Try.prog Fn.law2_HeapCopies [a0, a1, a2, a3] K w := evalF_sound env_ok N_law2_HeapCopies Try.func5 (by kernel_rfl) (Eq.mp (E_law2_HeapCopies a0 a1 a2 a3 K w) h)

noncomputable def N_law2_HeapAll : Notes := { live := fun | _ => [], keep := fun | 0 => [0, 1, 2] | 1 => [0, 1, 2] | 3 => [0, 1, 2] | 4 => [0, 1, 2, 7] | 6 => [0, 1, 2, 7] | 7 => [1, 2, 7, 8] | 9 => [2, 7, 8] | 10 => [2, 7, 8, 9] | 12 => [2, 7, 8, 9] | 13 => [7, 8, 9, 10] | 14 => [7, 8] | _ => [], rest := fun | _ => [], plan := fun | _ => ⟨[], [], .done⟩ }
theorem E_law2_HeapAll (a0 a1 a2 : Value) (K : KV) (w : World) : S_law2_HeapAll a0 a1 a2 K w = evalF env N_law2_HeapAll Try.f6 [a0, a1, a2] K w := by kernel_rfl
theorem L_law2_HeapAll {a0 a1 a2 : Value} {K : KV} {w : World} (h : S_law2_HeapAll a0 a1 a2 K w) : CP Try.prog Fn.law2_HeapAll [a0, a1, a2] K w := evalF_sound env_ok N_law2_HeapAll Try.func6 (by kernel_rfl) (Eq.mp (E_law2_HeapAll a0 a1 a2 K w) h)

noncomputable def N_heap_New : Notes := { live := fun | _ => [], keep := fun | 0 => [0] | 1 => [0] | _ => [], rest := fun | _ => [], plan := fun | _ => ⟨[], [], .done⟩ }
theorem E_heap_New (a0 : Value) (K : KV) (w : World) : S_heap_New a0 K w = evalF env N_heap_New Try.f18 [a0] K w := by kernel_rfl
theorem L_heap_New {a0 : Value} {K : KV} {w : World} (h : S_heap_New a0 K w) : CP Try.prog Fn.heap_New [a0] K w := evalF_sound env_ok N_heap_New Try.func18 (by kernel_rfl) (Eq.mp (E_heap_New a0 K w) h)

noncomputable def N_heap_Heap_Store : Notes := { live := fun | _ => [], keep := fun | 0 => [0, 1, 2] | 1 => [0, 1, 2] | 3 => [0, 1, 2] | _ => [], rest := fun | _ => [], plan := fun | _ => ⟨[], [], .done⟩ }
theorem E_heap_Heap_Store (a0 a1 a2 : Value) (K : KV) (w : World) : S_heap_Heap_Store a0 a1 a2 K w = evalF env N_heap_Heap_Store Try.f19 [a0, a1, a2] K w := by kernel_rfl
theorem L_heap_Heap_Store {a0 a1 a2 : Value} {K : KV} {w : World} (h : S_heap_Heap_Store a0 a1 a2 K w) : CP Try.prog Fn.heap_Heap_Store [a0, a1, a2] K w := evalF_sound env_ok N_heap_Heap_Store Try.func19 (by kernel_rfl) (Eq.mp (E_heap_Heap_Store a0 a1 a2 K w) h)

noncomputable def N_heap_Heap_Load : Notes := { live := fun | _ => [], keep := fun | 0 => [0, 1] | 1 => [0, 1] | 3 => [0, 1] | _ => [], rest := fun | _ => [], plan := fun | _ => ⟨[], [], .done⟩ }
theorem E_heap_Heap_Load (a0 a1 : Value) (K : KV) (w : World) : S_heap_Heap_Load a0 a1 K w = evalF env N_heap_Heap_Load Try.f20 [a0, a1] K w := by kernel_rfl
theorem L_heap_Heap_Load {a0 a1 : Value} {K : KV} {w : World} (h : S_heap_Heap_Load a0 a1 K w) : CP Try.prog Fn.heap_Heap_Load [a0, a1] K w := evalF_sound env_ok N_heap_Heap_Load Try.func20 (by kernel_rfl) (Eq.mp (E_heap_Heap_Load a0 a1 K w) h)

noncomputable def N_heap_Heap_Len : Notes := { live := fun | _ => [], keep := fun | 0 => [0] | 1 => [0] | _ => [], rest := fun | _ => [], plan := fun | _ => ⟨[], [], .done⟩ }
theorem E_heap_Heap_Len (a0 : Value) (K : KV) (w : World) : S_heap_Heap_Len a0 K w = evalF env N_heap_Heap_Len Try.f21 [a0] K w := by kernel_rfl
theorem L_heap_Heap_Len {a0 : Value} {K : KV} {w : World} (h : S_heap_Heap_Len a0 K w) : CP Try.prog Fn.heap_Heap_Len [a0] K w := evalF_sound env_ok N_heap_Heap_Len Try.func21 (by kernel_rfl) (Eq.mp (E_heap_Heap_Len a0 K w) h)

noncomputable def N_heap_Heap_All : Notes := { live := fun | _ => [], keep := fun | 0 => [0] | 1 => [0] | _ => [], rest := fun | _ => [], plan := fun | _ => ⟨[], [], .done⟩ }
theorem E_heap_Heap_All (a0 : Value) (K : KV) (w : World) : S_heap_Heap_All a0 K w = evalF env N_heap_Heap_All Try.f22 [a0] K w := by kernel_rfl
theorem L_heap_Heap_All {a0 : Value} {K : KV} {w : World} (h : S_heap_Heap_All a0 K w) : CP Try.prog Fn.heap_Heap_All [a0] K w := evalF_sound env_ok N_heap_Heap_All Try.func22 (by kernel_rfl) (Eq.mp (E_heap_Heap_All a0 K w) h)

noncomputable def N_heap_Heap_Copy : Notes := { live := fun | _ => [], keep := fun | 0 => [0] | 1 => [0] | _ => [], rest := fun | _ => [], plan := fun | _ => ⟨[], [], .done⟩ }
theorem E_heap_Heap_Copy (a0 : Value) (K : KV) (w : World) : S_heap_Heap_Copy a0 K w = evalF env N_heap_Heap_Copy Try.f23 [a0] K w := by kernel_rfl
theorem L_heap_Heap_Copy {a0 : Value} {K : KV} {w : World} (h : S_heap_Heap_Copy a0 K w) : CP Try.prog Fn.heap_Heap_Copy [a0] K w := evalF_sound env_ok N_heap_Heap_Copy Try.func23 (by kernel_rfl) (Eq.mp (E_heap_Heap_Copy a0 K w) h)

noncomputable def N_law2_do : Notes := { live := fun | 2 => [7] | 19 => [14] | _ => [], keep := fun | 0 => [0, 1, 2] | 1 => [0, 1, 2] | 2 => [0, 1, 2, 7] | 4 => [0, 1, 2, 7] | 5 => [0, 1, 2, 7, 8] | 6 => [0, 1, 2, 7, 8, 9] | 7 => [0, 1, 2, 7, 8, 9] | 8 => [0, 1, 2, 7, 8, 9, 10] | 10 => [0, 1, 2, 7, 8, 9] | 11 => [0, 1, 2, 7, 8, 9] | 12 => [0, 1, 2, 7, 8, 9] | 13 => [0, 1, 2, 7, 8, 9, 11, 12] | 3 => [0, 1, 2, 7] | 15 => [0, 1] | 16 => [0, 1, 13] | 18 => [1, 13] | 19 => [1, 13, 14] | 21 => [1, 13, 14] | 20 => [1, 13, 14] | _ => [], rest := fun | 2 => [0, 1, 2] | 19 => [1, 13] | _ => [], plan := fun | 21 => ⟨[0, 0, 3, 4, 0, 0, 48, 64, 136], [0, 0, 3, 7, 0, 0, 48, 112, 255], (.take 0 1 (.take 1 3 (.take 2 7 (.take 3 15 (.take 4 31 (.take 5 63 (.take 6 127 (.take 7 255 (.take 8 511 .done)))))))))⟩ | _ => ⟨[], [], .done⟩ }
theorem E_law2_do (a0 a1 a2 : Value) (K : KV) (w : World) : S_law2_do a0 a1 a2 K w = evalF env N_law2_do Try.f24 [a0, a1, a2] K w := by kernel_rfl
theorem L_law2_do {a0 a1 a2 : Value} {K : KV} {w : World} (h : S_law2_do a0 a1 a2 K w) : CP Try.prog Fn.law2_do [a0, a1, a2] K w := evalF_sound env_ok N_law2_do Try.func24 (by kernel_rfl) (Eq.mp (E_law2_do a0 a1 a2 K w) h)

noncomputable def N_ref1_Held : Notes := { live := fun | _ => [], keep := fun | 0 => [0, 1, 2] | 1 => [0, 1, 2] | 2 => [1] | 3 => [0, 2] | 4 => [2] | 5 => [0] | _ => [], rest := fun | _ => [], plan := fun | _ => ⟨[], [], .done⟩ }
theorem E_ref1_Held (a0 a1 a2 : Value) (K : KV) (w : World) : S_ref1_Held a0 a1 a2 K w = evalF env N_ref1_Held Try.f25 [a0, a1, a2] K w := by kernel_rfl
theorem L_ref1_Held {a0 a1 a2 : Value} {K : KV} {w : World} (h : S_ref1_Held a0 a1 a2 K w) : CP Try.prog Fn.ref1_Held [a0, a1, a2] K w := evalF_sound env_ok N_ref1_Held Try.func25 (by kernel_rfl) (Eq.mp (E_ref1_Held a0 a1 a2 K w) h)

noncomputable def N_heap_Heap_is : Notes := { live := fun | _ => [], keep := fun | 0 => [0, 1] | 1 => [0, 1] | _ => [], rest := fun | _ => [], plan := fun | _ => ⟨[], [], .done⟩ }
theorem E_heap_Heap_is (a0 a1 : Value) (K : KV) (w : World) : S_heap_Heap_is a0 a1 K w = evalF env N_heap_Heap_is Try.f54 [a0, a1] K w := by kernel_rfl
theorem L_heap_Heap_is {a0 a1 : Value} {K : KV} {w : World} (h : S_heap_Heap_is a0 a1 K w) : CP Try.prog Fn.heap_Heap_is [a0, a1] K w := evalF_sound env_ok N_heap_Heap_is Try.func54 (by kernel_rfl) (Eq.mp (E_heap_Heap_is a0 a1 K w) h)

noncomputable def N_slices_Clone_uint64_uint64 : Notes := { live := fun | _ => [], keep := fun | 0 => [0] | 1 => [0] | 3 => [0] | _ => [], rest := fun | _ => [], plan := fun | _ => ⟨[], [], .done⟩ }
theorem E_slices_Clone_uint64_uint64 (a0 : Value) (K : KV) (w : World) : S_slices_Clone_uint64_uint64 a0 K w = evalF env N_slices_Clone_uint64_uint64 Try.f55 [a0] K w := by kernel_rfl
theorem L_slices_Clone_uint64_uint64 {a0 : Value} {K : KV} {w : World} (h : S_slices_Clone_uint64_uint64 a0 K w) : CP Try.prog Fn.slices_Clone_uint64_uint64 [a0] K w := evalF_sound env_ok N_slices_Clone_uint64_uint64 Try.func55 (by kernel_rfl) (Eq.mp (E_slices_Clone_uint64_uint64 a0 K w) h)

end Go.Proofs.Ytpabihjmjkodbaa.S
