/- Some of the reference's constants, reckoned. -/
import Derived.Test.YtocnkfepiknglaaShaF
namespace Go.Proofs.Ytocnkfepiknglaa.PAll
theorem root_K5 : ([179, 181, 191, 193, 197, 199, 211, 223] : List Int).map (fun p => latchkeyref03_root.f 400 p 3) = ([2730485921, 2820302411, 3259730800, 3345764771, 3516065817, 3600352804, 4094571909, 275423344] : List Int).map some := by decide +kernel
theorem root_K6 : ([227, 229, 233, 239, 241, 251, 257, 263] : List Int).map (fun p => latchkeyref03_root.f 400 p 3) = ([430227734, 506948616, 659060556, 883997877, 958139571, 1322822218, 1537002063, 1747873779] : List Int).map some := by decide +kernel
end Go.Proofs.Ytocnkfepiknglaa.PAll
