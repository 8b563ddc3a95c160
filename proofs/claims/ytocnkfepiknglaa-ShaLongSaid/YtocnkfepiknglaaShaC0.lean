/- The fractions of the roots: what sha.roots comes to. -/
import Derived.Test.YtocnkfepiknglaaShaB
namespace Go.Proofs.Ytocnkfepiknglaa.PAll
open Go.RowKit Go.Proofs.YtocnkfepiknglaaW.PrintWords Go.Proofs.YtocnkfepiknglaaW.PrintLast Go.Proofs.YtocnkfepiknglaaW.PrintMore
set_option linter.unusedVariables false
set_option linter.unusedSimpArgs false

/-- Has p no divisor from d on, up to its root? -/
def noDiv : Nat → Int → Int → Option Bool
  | 0, _, _ => none
  | k + 1, p, d => if 0 < d ∧ d ≤ 1000 then (if d * d ≤ p then (if p % d = 0 then some false else noDiv k p (d + 1)) else some true) else none
def sha_roots.l0 : Nat → Bool → Int → List Int → Int → Option (List Int)
  | 0, _, _, _, _ => none
  | k + 1, third, n, out, p => if (out.length : Int) < n then (if 0 ≤ p ∧ p ≤ 1000 ∧ out.length ≤ 1000 then ((noDiv 100 p 2).bind fun b => if b = true then ((sha_fraction.f 42 p third).bind fun x => sha_roots.l0 k third n (out ++ [x]) (p + 1)) else sha_roots.l0 k third n out (p + 1)) else none) else some out
def sha_roots.f (third : Bool) (n : Int) : Option (List Int) := sha_roots.l0 1000 third n [] 2

def rootsH : List Int := [1779033703, 3144134277, 1013904242, 2773480762, 1359893119, 2600822924, 528734635, 1541459225]
theorem rootsH_ok : sha_roots.f false 8 = some rootsH := by decide +kernel
def rootsK : List Int := [1116352408, 1899447441, 3049323471, 3921009573, 961987163, 1508970993, 2453635748, 2870763221, 3624381080, 310598401, 607225278, 1426881987, 1925078388, 2162078206, 2614888103, 3248222580, 3835390401, 4022224774, 264347078, 604807628, 770255983, 1249150122, 1555081692, 1996064986, 2554220882, 2821834349, 2952996808, 3210313671, 3336571891, 3584528711, 113926993, 338241895, 666307205, 773529912, 1294757372, 1396182291, 1695183700, 1986661051, 2177026350, 2456956037, 2730485921, 2820302411, 3259730800, 3345764771, 3516065817, 3600352804, 4094571909, 275423344, 430227734, 506948616, 659060556, 883997877, 958139571, 1322822218, 1537002063, 1747873779, 1955562222, 2024104815, 2227730452, 2361852424, 2428436474, 2756734187, 3204031479, 3329325298]
theorem rootsK_ok : sha_roots.f true 64 = some rootsK := by decide +kernel

end Go.Proofs.Ytocnkfepiknglaa.PAll
