/- Some of the reference's constants, reckoned. -/
import Derived.Test.YtocnkfepiknglaaShaF
namespace Go.Proofs.Ytocnkfepiknglaa.PAll
theorem root_H0 : ([2, 3, 5, 7, 11, 13, 17, 19] : List Int).map (fun p => latchkeyref03_root.f 400 p 2) = ([1779033703, 3144134277, 1013904242, 2773480762, 1359893119, 2600822924, 528734635, 1541459225] : List Int).map some := by decide +kernel
theorem root_K0 : ([2, 3, 5, 7, 11, 13, 17, 19] : List Int).map (fun p => latchkeyref03_root.f 400 p 3) = ([1116352408, 1899447441, 3049323471, 3921009573, 961987163, 1508970993, 2453635748, 2870763221] : List Int).map some := by decide +kernel
end Go.Proofs.Ytocnkfepiknglaa.PAll
