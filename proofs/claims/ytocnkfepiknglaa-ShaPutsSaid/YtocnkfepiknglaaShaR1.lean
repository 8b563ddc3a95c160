/- Some of the reference's constants, reckoned. -/
import Derived.Test.YtocnkfepiknglaaShaF
namespace Go.Proofs.Ytocnkfepiknglaa.PAll
theorem root_K1 : ([23, 29, 31, 37, 41, 43, 47, 53] : List Int).map (fun p => latchkeyref03_root.f 400 p 3) = ([3624381080, 310598401, 607225278, 1426881987, 1925078388, 2162078206, 2614888103, 3248222580] : List Int).map some := by decide +kernel
theorem root_K2 : ([59, 61, 67, 71, 73, 79, 83, 89] : List Int).map (fun p => latchkeyref03_root.f 400 p 3) = ([3835390401, 4022224774, 264347078, 604807628, 770255983, 1249150122, 1555081692, 1996064986] : List Int).map some := by decide +kernel
end Go.Proofs.Ytocnkfepiknglaa.PAll
