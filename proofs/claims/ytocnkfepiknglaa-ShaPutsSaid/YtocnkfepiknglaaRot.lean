/- The reference's turn is the program's rotation. The reference's word is the program's. -/
import Derived.Test.YtocnkfepiknglaaShaI
namespace Go.Proofs.Ytocnkfepiknglaa.PAll
open Go.RowKit Go.Proofs.YtocnkfepiknglaaW.PrintWords Go.Proofs.YtocnkfepiknglaaW.PrintLast Go.Proofs.YtocnkfepiknglaaW.PrintMore
theorem or_comm32 (a b : Int) : Go.bits .or .u32 a b = Go.bits .or .u32 b a := by
  unfold Go.bits
  simp only [BitVec.or_comm]
theorem turn_rl (x k m : Int) (a b : Nat) (h0 : 0 ≤ k) (h1 : 0 ≤ wrap64 (32 - k)) (e1 : min (Go.bits .and .u64 (IntKind.u64.wrap m) 31).toNat 32 = a) (e2 : min (IntKind.u64.wrap (32 - Go.bits .and .u64 (IntKind.u64.wrap m) 31)).toNat 32 = b) (e3 : min (wrap64 (32 - k)).toNat 32 = a) (e4 : min k.toNat 32 = b) :
    latchkeyref03_turn.f x k = some (rl x m) := by
  unfold latchkeyref03_turn.f rl
  rw [if_pos h0, if_pos h1, or_comm32, e1, e2]
  unfold shl shr
  rw [show IntKind.u32.bits = 32 from rfl, e3, e4, IntKind.wrap_u32]
theorem turn7 (x : Int) : latchkeyref03_turn.f x 7 = some (rl x (-7)) := turn_rl x 7 (-7) 25 7 (by decide) (by decide +kernel) (by decide +kernel) (by decide +kernel) (by decide +kernel) (by decide)
theorem turn18 (x : Int) : latchkeyref03_turn.f x 18 = some (rl x (-18)) := turn_rl x 18 (-18) 14 18 (by decide) (by decide +kernel) (by decide +kernel) (by decide +kernel) (by decide +kernel) (by decide)
theorem turn17 (x : Int) : latchkeyref03_turn.f x 17 = some (rl x (-17)) := turn_rl x 17 (-17) 15 17 (by decide) (by decide +kernel) (by decide +kernel) (by decide +kernel) (by decide +kernel) (by decide)
theorem turn19 (x : Int) : latchkeyref03_turn.f x 19 = some (rl x (-19)) := turn_rl x 19 (-19) 13 19 (by decide) (by decide +kernel) (by decide +kernel) (by decide +kernel) (by decide +kernel) (by decide)
theorem turn6 (x : Int) : latchkeyref03_turn.f x 6 = some (rl x (-6)) := turn_rl x 6 (-6) 26 6 (by decide) (by decide +kernel) (by decide +kernel) (by decide +kernel) (by decide +kernel) (by decide)
theorem turn11 (x : Int) : latchkeyref03_turn.f x 11 = some (rl x (-11)) := turn_rl x 11 (-11) 21 11 (by decide) (by decide +kernel) (by decide +kernel) (by decide +kernel) (by decide +kernel) (by decide)
theorem turn25 (x : Int) : latchkeyref03_turn.f x 25 = some (rl x (-25)) := turn_rl x 25 (-25) 7 25 (by decide) (by decide +kernel) (by decide +kernel) (by decide +kernel) (by decide +kernel) (by decide)
theorem turn2 (x : Int) : latchkeyref03_turn.f x 2 = some (rl x (-2)) := turn_rl x 2 (-2) 30 2 (by decide) (by decide +kernel) (by decide +kernel) (by decide +kernel) (by decide +kernel) (by decide)
theorem turn13 (x : Int) : latchkeyref03_turn.f x 13 = some (rl x (-13)) := turn_rl x 13 (-13) 19 13 (by decide) (by decide +kernel) (by decide +kernel) (by decide +kernel) (by decide +kernel) (by decide)
theorem turn22 (x : Int) : latchkeyref03_turn.f x 22 = some (rl x (-22)) := turn_rl x 22 (-22) 10 22 (by decide) (by decide +kernel) (by decide +kernel) (by decide +kernel) (by decide +kernel) (by decide)
end Go.Proofs.Ytocnkfepiknglaa.PAll
namespace Go.Proofs.Ytocnkfepiknglaa.PAll
open Go.RowKit Go.Proofs.YtocnkfepiknglaaW.PrintWords Go.Proofs.YtocnkfepiknglaaW.PrintLast Go.Proofs.YtocnkfepiknglaaW.PrintMore
theorem or_nat (a b : Nat) (ha : a < 4294967296) (hb : b < 4294967296) : Go.bits .or .u32 (a : Int) (b : Int) = ((a ||| b : Nat) : Int) := by
  have ho : a ||| b < 2 ^ 32 := Nat.or_lt_two_pow (by omega) (by omega)
  unfold Go.bits
  rw [IntKind.wrap_u32]
  simp only [BitVec.toNat_or, BitVec.ofInt_natCast, BitVec.toNat_ofNat]
  rw [show 2 ^ IntKind.u32.bits = 4294967296 from rfl, Nat.mod_eq_of_lt ha, Nat.mod_eq_of_lt hb]
  omega
theorem word_nat (p q r s : Nat) (hp : p < 256) (hq : q < 256) (hr : r < 256) (hs : s < 256) :
    Go.bits .or .u32 (Go.bits .or .u32 (Go.bits .or .u32 ((p : Int) % 4294967296 * 16777216 % 4294967296) ((q : Int) % 4294967296 * 65536 % 4294967296)) ((r : Int) % 4294967296 * 256 % 4294967296)) ((s : Int) % 4294967296) = ((((p * 256 + q) * 256 + r) * 256 + s : Nat) : Int) := by
  have e1 : (p : Int) % 4294967296 * 16777216 % 4294967296 = ((p * 16777216 : Nat) : Int) := by omega
  have e2 : (q : Int) % 4294967296 * 65536 % 4294967296 = ((q * 65536 : Nat) : Int) := by omega
  have e3 : (r : Int) % 4294967296 * 256 % 4294967296 = ((r * 256 : Nat) : Int) := by omega
  have e4 : (s : Int) % 4294967296 = (s : Int) := by omega
  have o1 : p * 16777216 ||| q * 65536 = p * 16777216 + q * 65536 := by
    have := Nat.two_pow_add_eq_or_of_lt (i := 24) (b := q * 65536) (by omega) p
    rw [show 2 ^ 24 * p = p * 16777216 from Nat.mul_comm _ _] at this
    exact this.symm
  have o2 : (p * 16777216 + q * 65536) ||| r * 256 = p * 16777216 + q * 65536 + r * 256 := by
    have := Nat.two_pow_add_eq_or_of_lt (i := 16) (b := r * 256) (by omega) (p * 256 + q)
    rw [show 2 ^ 16 * (p * 256 + q) = p * 16777216 + q * 65536 from by rw [show (2 : Nat) ^ 16 = 65536 from rfl]; omega] at this
    exact this.symm
  have o3 : (p * 16777216 + q * 65536 + r * 256) ||| s = p * 16777216 + q * 65536 + r * 256 + s := by
    have := Nat.two_pow_add_eq_or_of_lt (i := 8) (b := s) (by omega) ((p * 256 + q) * 256 + r)
    rw [show 2 ^ 8 * ((p * 256 + q) * 256 + r) = p * 16777216 + q * 65536 + r * 256 from by rw [show (2 : Nat) ^ 8 = 256 from rfl]; omega] at this
    exact this.symm
  rw [e1, e2, e3, e4, or_nat _ _ (by omega) (by omega), o1, or_nat _ _ (by omega) (by omega), o2, or_nat _ _ (by omega) (by omega), o3]
  omega
end Go.Proofs.Ytocnkfepiknglaa.PAll
