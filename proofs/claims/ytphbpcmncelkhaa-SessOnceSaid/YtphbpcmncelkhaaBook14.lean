/- A nil book. -/
import Derived.Test.YtphbpcmncelkhaaBook13
namespace Go.Proofs.Ytphbpcmncelkhaa.Sess
open Go.RowKit Go.Shelf Go.Proofs.YtphbpcmncelkhaaW.PrintWords Go.Proofs.YtphbpcmncelkhaaW.PrintLast Go.Proofs.YtphbpcmncelkhaaW.PrintMore Go.Proofs.Ytphbpcmncelkhaa.PSessPlays
set_option linter.unusedVariables false
set_option linter.unusedSimpArgs false

theorem begin_nil (x : Cs) (now : Int) (w : World) : Calls Try.prog 9 #[.pointer none, x.agg, .int .u64 now] w fun e w' => e = .returned (.tuple #[.int .u64 0, .int .i64 1]) ∧ Below w.heap.size w w' := by
  simp only [Cs.agg]
  go_enter Try.func9, Try.ntmps9
  go_wp2
  go_ret2
  exact ⟨rfl, below_alloc (Below.refl _ _) _⟩

theorem take_nil (handle now : Int) (w : World) : Calls Try.prog 11 #[.pointer none, .int .u64 handle, .int .u64 now] w fun e w' => e = .returned (.tuple #[.agg #[.int .u64 0, .string ⟨#[]⟩, .slice none 0 0, .int .u64 0, .bool false, .bool false], .int .i64 1]) ∧ Below w.heap.size w w' := by
  obtain ⟨W1, hW1⟩ : ∃ W1, W1 = (w.alloc (.cells #[.int .u64 handle] 25)).alloc (.cells #[.int .u64 0, .string ⟨#[]⟩, .slice none 0 0, .int .u64 0, .bool false, .bool false] 34) := ⟨_, rfl⟩
  have hZz : W1.heap[w.heap.size + 1]? = some (.cells #[.int .u64 0, .string ⟨#[]⟩, .slice none 0 0, .int .u64 0, .bool false, .bool false] 34 (0, 0)) := by rw [hW1]; exact heap_alloc2_new _ _ _
  have hb1 : Below w.heap.size w W1 := by rw [hW1]; exact below_alloc (below_alloc (Below.refl _ _) _) _
  have HW := Aside0.mk hW1
  clear hW1
  go_enter Try.func11, Try.ntmps11
  go_wp2
  rw [← HW.out]
  refine bodyPost_ret (results_ct (p := 6) (u := 7) (ty := 34) (by kernel_rfl) _ _ (w.heap.size + 1) 34 _ (0, 0) _ rfl hZz Try.underlying34 rfl size34) rfl ?_
  exact ⟨rfl, hb1⟩

theorem live_nil (now : Int) (w : World) : Calls Try.prog 16 #[.pointer none, .int .u64 now] w fun e w' => e = .returned (.int .i64 0) ∧ Below w.heap.size w w' := by
  go_enter Try.func16, Try.ntmps16
  go_wp2
  go_ret
  exact ⟨rfl, Below.refl _ _⟩

end Go.Proofs.Ytphbpcmncelkhaa.Sess
