/- The fixed facts of Awake, reckoned; b64.Decode as a plain function. -/
import Derived.Test.YtabdkmlindgkmaaPAllx3
import Derived.Test.YtabdkmlindgkmaaPure3
set_option linter.unusedVariables false
namespace Go.Proofs.Ytabdkmlindgkmaa.B64
open Go.RowKit Go.Proofs.YtabdkmlindgkmaaW.PrintWords Go.Proofs.YtabdkmlindgkmaaW.PrintLast Go.Proofs.YtabdkmlindgkmaaW.PrintMore
open Go.Proofs.Ytabdkmlindgkmaa.PAll

theorem awake_20 : latchkeylaw04_Awake.f 20 = some true := by decide +kernel
theorem awake (k : Nat) (h : 20 ≤ k) : latchkeylaw04_Awake.f k = some true := at_rounds latchkeylaw04_Awake.mono h awake_20

end Go.Proofs.Ytabdkmlindgkmaa.B64
