/- Some of the reference's constants, reckoned. -/
import Derived.Test.YtocnkfepiknglaaShaF
namespace Go.Proofs.Ytocnkfepiknglaa.PAll
theorem root_K7 : ([269, 271, 277, 281, 283, 293, 307, 311] : List Int).map (fun p => latchkeyref03_root.f 400 p 3) = ([1955562222, 2024104815, 2227730452, 2361852424, 2428436474, 2756734187, 3204031479, 3329325298] : List Int).map some := by decide +kernel
end Go.Proofs.Ytocnkfepiknglaa.PAll
