/- (*sha.Hash).Sum of a nil hash. -/
import Derived.Test.YtocnkfepiknglaaClo
import Derived.Test.YtocnkfepiknglaaShaH
import Derived.Test.YtocnkfepiknglaaOut32
namespace Go.Proofs.Ytocnkfepiknglaa.PAll
open Go.RowKit Go.Proofs.YtocnkfepiknglaaW.PrintWords Go.Proofs.YtocnkfepiknglaaW.PrintLast Go.Proofs.YtocnkfepiknglaaW.PrintMore
set_option linter.unusedVariables false
set_option linter.unusedSimpArgs false

set_option maxHeartbeats 8000000 in
set_option maxRecDepth 100000 in
theorem sum_nil (w : World) : Calls Try.prog 13 #[.pointer none] w fun e w' => e = .returned (.agg (arr32 zeros32)) ∧ Below w.heap.size w w' := by
  go_enter Try.func13, Try.ntmps13
  go_upto_region 3 with (fail)
  obtain ⟨W, hW, h2, h3, hb⟩ : ∃ W, W = (w.alloc (.cells (arr32 zeros32) 24)).alloc (.cells (arr32 zeros32) 24) ∧ W.heap[w.heap.size]? = some (.cells (arr32 zeros32) 24 (0, 0)) ∧ W.heap[w.heap.size + 1]? = some (.cells (arr32 zeros32) 24 (0, 0)) ∧ Below w.heap.size w W :=
    ⟨_, rfl, heap_alloc2_old _ _ _, heap_alloc2_new _ _ _, below_alloc (below_alloc (Below.refl _ _) _) _⟩
  have hWe : (w.alloc (.cells (arr32 zeros32) 24)).alloc (.cells (arr32 zeros32) 24) = W := hW.symm
  change Code.wp _ _ _ _ ((w.alloc (.cells (arr32 zeros32) 24)).alloc (.cells (arr32 zeros32) 24))
  rw [hWe]
  clear hW hWe
  have hz : (arr32 zeros32).size = 32 := arr32_size _ rfl
  go_wp2_with (first | ((with_reducible refine gate_dst (N := 12) rfl ?_); refine load32_at rfl (.tmp 3) rfl rfl h3 hz ?_) | ((with_reducible refine gate_store (t := 24) (p := 2) rfl ?_); refine store32_at rfl (.tmp 2) (.tmp 12) rfl rfl rfl h2 hz hz (arr32_one _) ?_))
  refine bodyPost_ret (v := .agg (arr32 zeros32)) ?_ rfl ⟨rfl, ?_⟩
  · have hres : Try.f13.results = #[.cell 2 24] := by kernel_rfl
    have hl := run_loadVar_row (P := Try.prog) (W.setRow w.heap.size (arr32 zeros32)) w.heap.size 24 24 (arr32 zeros32) (0, 0) _ (setRow_heap h2) Try.underlying24 rfl (by rw [hz]; exact size24)
    simp [results, hres, Act.put, asAddr, hl, Result.andThen]
  · exact ⟨hb.os, hb.tape, hb.output, by simpa [World.setRow] using hb.size, fun k hk => (setRow_far (by omega)).trans (hb.block k hk)⟩

end Go.Proofs.Ytocnkfepiknglaa.PAll
