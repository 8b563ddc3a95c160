/- Some of the reference's constants, reckoned. -/
import Derived.Test.YtocnkfepiknglaaShaF
namespace Go.Proofs.Ytocnkfepiknglaa.PAll
theorem root_K3 : ([97, 101, 103, 107, 109, 113, 127, 131] : List Int).map (fun p => latchkeyref03_root.f 400 p 3) = ([2554220882, 2821834349, 2952996808, 3210313671, 3336571891, 3584528711, 113926993, 338241895] : List Int).map some := by decide +kernel
theorem root_K4 : ([137, 139, 149, 151, 157, 163, 167, 173] : List Int).map (fun p => latchkeyref03_root.f 400 p 3) = ([666307205, 773529912, 1294757372, 1396182291, 1695183700, 1986661051, 2177026350, 2456956037] : List Int).map some := by decide +kernel
end Go.Proofs.Ytocnkfepiknglaa.PAll
