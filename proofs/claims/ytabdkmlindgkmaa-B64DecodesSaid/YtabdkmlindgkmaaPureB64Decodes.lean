/- The plain law of B64Decodes: b64.Decode answers of any text as the reference does. -/
import Derived.Test.YtabdkmlindgkmaaPAllxDecodes
import Derived.Test.YtabdkmlindgkmaaPure4
set_option linter.unusedVariables false
namespace Go.Proofs.Ytabdkmlindgkmaa.Pure
open Go.RowKit Go.Proofs.Ytabdkmlindgkmaa.PAll Go.Proofs.YtabdkmlindgkmaaW.PrintWords Go.Proofs.YtabdkmlindgkmaaW.PrintLast
open Go.Proofs.Ytabdkmlindgkmaa.B64

theorem B64Decodes : latchkeylaw04_B64Decodes.Pure := by
  intro s hs
  refine ⟨100 * s.size + 150, ?_⟩
  unfold latchkeylaw04_B64Decodes.f
  rw [awake _ (by omega)]
  simp only [Option.bind_some, if_true]
  by_cases h : (s.size : Int) > 3000
  · rw [if_pos h]
  · rw [if_neg h, refdec_f s (by omega) _ (by omega)]
    unfold b64_Decode.f
    rw [decS_eq s (by omega)]
    simp only [Option.bind_some]
    cases decT (nb s) with
    | none => simp
    | some b => simp

end Go.Proofs.Ytabdkmlindgkmaa.Pure
