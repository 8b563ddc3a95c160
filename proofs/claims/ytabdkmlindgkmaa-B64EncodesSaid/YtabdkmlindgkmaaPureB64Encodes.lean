/- The plain law of B64Encodes: b64.Encode's text of any bytes is the reference's. -/
import Derived.Test.YtabdkmlindgkmaaPAllxEncodes
import Derived.Test.YtabdkmlindgkmaaPure4
set_option linter.unusedVariables false
namespace Go.Proofs.Ytabdkmlindgkmaa.Pure
open Go.RowKit Go.Proofs.Ytabdkmlindgkmaa.PAll Go.Proofs.YtabdkmlindgkmaaW.PrintWords Go.Proofs.YtabdkmlindgkmaaW.PrintLast
open Go.Proofs.Ytabdkmlindgkmaa.B64

theorem B64Encodes : latchkeylaw04_B64Encodes.Pure := by
  intro l h1 h2 hw
  have hb := wf_byt hw
  refine ⟨16 * l.length + 50, ?_⟩
  unfold latchkeylaw04_B64Encodes.f
  rw [awake _ (by omega)]
  simp only [Option.bind_some, if_true]
  by_cases h : (l.length : Int) > 3000
  · rw [if_pos h]
  · rw [if_neg h, enc_f l (by omega) hb _ (by omega), refenc_f l (by omega) hb _ (by omega)]
    simp

end Go.Proofs.Ytabdkmlindgkmaa.Pure
