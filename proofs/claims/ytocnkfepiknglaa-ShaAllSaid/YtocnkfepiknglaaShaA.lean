/- bits.Mul64 (written by the kit's printer), bits.Add64, sha.above. -/
import Derived.Test.YtocnkfepiknglaaPAllx0
import Derived.Laws.Externs
namespace Go.Proofs.Ytocnkfepiknglaa.PAll
open Go.RowKit Go.Proofs.YtocnkfepiknglaaW.PrintWords Go.Proofs.YtocnkfepiknglaaW.PrintLast Go.Proofs.YtocnkfepiknglaaW.PrintMore
attribute [local go_sem] max2_int min2_int max_two min_two max_three min_three max_four min_four   -- for this text's walks alone
set_option linter.unusedVariables false
set_option linter.unusedSimpArgs false

/-! ### bits_Mul64: function 32 -/
def bits_Mul64.f (a0 : Int) (a1 : Int) : Option (Int × Int) := some (IntKind.u64.wrap ((IntKind.u64.wrap ((IntKind.u64.wrap ((a0 / 4294967296) * (a1 / 4294967296))) + ((IntKind.u64.wrap ((IntKind.u64.wrap ((a0 / 4294967296) * (Go.bits .and .u64 a1 4294967295))) + ((IntKind.u64.wrap ((Go.bits .and .u64 a0 4294967295) * (Go.bits .and .u64 a1 4294967295))) / 4294967296))) / 4294967296))) + ((IntKind.u64.wrap ((Go.bits .and .u64 (IntKind.u64.wrap ((IntKind.u64.wrap ((a0 / 4294967296) * (Go.bits .and .u64 a1 4294967295))) + ((IntKind.u64.wrap ((Go.bits .and .u64 a0 4294967295) * (Go.bits .and .u64 a1 4294967295))) / 4294967296))) 4294967295) + (IntKind.u64.wrap ((Go.bits .and .u64 a0 4294967295) * (a1 / 4294967296))))) / 4294967296)), IntKind.u64.wrap (a0 * a1))
set_option maxHeartbeats 8000000 in
set_option maxRecDepth 100000 in
theorem bits_Mul64.calls (a0 : Int) (a1 : Int) (r1 : Int) (r2 : Int) (w : World) (h : bits_Mul64.f a0 a1 = some (r1, r2)) :
    Calls Try.prog 32 #[.int .u64 a0, .int .u64 a1] w fun e w' => e = .returned (.tuple #[.int .u64 r1, .int .u64 r2]) ∧ Drawn0 w w' := by
  have H : (some (IntKind.u64.wrap ((IntKind.u64.wrap ((IntKind.u64.wrap ((a0 / 4294967296) * (a1 / 4294967296))) + ((IntKind.u64.wrap ((IntKind.u64.wrap ((a0 / 4294967296) * (Go.bits .and .u64 a1 4294967295))) + ((IntKind.u64.wrap ((Go.bits .and .u64 a0 4294967295) * (Go.bits .and .u64 a1 4294967295))) / 4294967296))) / 4294967296))) + ((IntKind.u64.wrap ((Go.bits .and .u64 (IntKind.u64.wrap ((IntKind.u64.wrap ((a0 / 4294967296) * (Go.bits .and .u64 a1 4294967295))) + ((IntKind.u64.wrap ((Go.bits .and .u64 a0 4294967295) * (Go.bits .and .u64 a1 4294967295))) / 4294967296))) 4294967295) + (IntKind.u64.wrap ((Go.bits .and .u64 a0 4294967295) * (a1 / 4294967296))))) / 4294967296)), IntKind.u64.wrap (a0 * a1))) = some (r1, r2) := h
  clear h
  simp only [Option.some.injEq, Prod.mk.injEq] at H
  obtain ⟨rfl, rfl⟩ := H
  go_enter Try.func32, Try.ntmps32
  go_wp2
  go_ret2
  exact ⟨by first | rfl | (simp; done) | (simp [*]; done), by repeat (first | exact Drawn0.refl _ | apply Drawn0.step)⟩


theorem drawn_trans {w w1 w2 : World} (h : Drawn0 w w1) (k : Drawn0 w1 w2) : Drawn0 w w2 := by
  obtain ⟨n, rfl⟩ := k
  exact h.step n
theorem add64 (x y : Int) (hx : 0 ≤ x) (hy : 0 ≤ y) : ∃ lo cy : Int, lo = (x + y + 0) % 18446744073709551616 ∧ cy = (x + y + 0) / 18446744073709551616 ∧ ∀ w, (callFunc 33 #[.int .u64 x, .int .u64 y, .int .u64 0]).run Try.prog w = .ok (.value (.tuple #[.int .u64 lo, .int .u64 cy])) w := by
  refine ⟨_, _, rfl, rfl, fun w => ?_⟩
  rw [run_callFunc_extern Try.func33 (by kernel_rfl) (by kernel_rfl) (by kernel_rfl) (e := add64Entry) (by kernel_rfl), run_add64 x y 0 hx hy (by omega) (by omega)]
  rfl

/-- Are the bits (high, low, b) above a power of p? -/
def above3 (high low b p : Int) : Bool :=
  if high > p / 4294967296 then true else if high = p / 4294967296 then (if low > IntKind.u64.wrap (p * 4294967296) then true else if low = IntKind.u64.wrap (p * 4294967296) then decide (b > 0) else false) else false
def above2 (h l p : Int) : Bool := if h > p then true else if h = p then decide (l > 0) else false
/-! ### sha_above: function 31 -/
def sha_above.f (x p : Int) (third : Bool) : Option Bool := if 0 ≤ p then ((bits_Mul64.f x x).bind fun t => if third = true then ((bits_Mul64.f t.2 x).bind fun ab => (bits_Mul64.f t.1 x).bind fun cd => some (above3 (IntKind.u64.wrap (cd.1 + (ab.1 + cd.2 + 0) / 18446744073709551616)) ((ab.1 + cd.2 + 0) % 18446744073709551616) ab.2 p)) else some (above2 t.1 t.2 p)) else none
set_option maxHeartbeats 8000000 in
set_option maxRecDepth 100000 in
theorem sha_above.calls (a0 : Int) (a1 : Int) (a2 : Bool) (r : Bool) (w : World) (h : sha_above.f a0 a1 a2 = some r) :
    Calls Try.prog 31 #[.int .u64 a0, .int .u64 a1, .bool a2] w fun e w' => e = .returned (.bool r) ∧ Drawn0 w w' := by
  unfold sha_above.f at h
  by_cases hp : 0 ≤ a1
  · rw [if_pos hp] at h
    obtain ⟨t1, t2, ht⟩ : ∃ t1 t2, bits_Mul64.f a0 a0 = some (t1, t2) := ⟨_, _, rfl⟩
    rw [ht, Option.bind_some] at h
    cases a2 with
    | false =>
      rw [if_neg (by decide)] at h
      obtain rfl := Option.some.inj h
      unfold above2
      by_cases h1 : t1 > a1
      · rw [if_pos h1]
        have h1b : decide (a1 < t1) = true := decide_eq_true h1
        go_enter Try.func31, Try.ntmps31
        go_wp2_with (go_at_call 32; refine (bits_Mul64.calls a0 a0 t1 t2 _ ht).mono ?_; rintro e w1 ⟨rfl, hd1⟩)
        go_ret
        exact ⟨rfl, hd1⟩
      · rw [if_neg h1]
        have h1b : decide (a1 < t1) = false := decide_eq_false h1
        by_cases h2 : t1 = a1
        · rw [if_pos h2]
          have h2b : (t1 == a1) = true := by simp [h2]
          have H2 := Aside0.mk h2
          clear h2
          go_enter Try.func31, Try.ntmps31
          go_wp2_with (go_at_call 32; refine (bits_Mul64.calls a0 a0 t1 t2 _ ht).mono ?_; rintro e w1 ⟨rfl, hd1⟩)
          go_ret
          exact ⟨rfl, hd1⟩
        · rw [if_neg h2]
          have h2b : (t1 == a1) = false := by simp [h2]
          go_enter Try.func31, Try.ntmps31
          go_wp2_with (go_at_call 32; refine (bits_Mul64.calls a0 a0 t1 t2 _ ht).mono ?_; rintro e w1 ⟨rfl, hd1⟩)
          go_ret
          exact ⟨rfl, hd1⟩
    | true =>
      rw [if_pos rfl] at h
      obtain ⟨a, b, hab⟩ : ∃ a b, bits_Mul64.f t2 a0 = some (a, b) := ⟨_, _, rfl⟩
      obtain ⟨c, d, hcd⟩ : ∃ c d, bits_Mul64.f t1 a0 = some (c, d) := ⟨_, _, rfl⟩
      rw [hab, Option.bind_some, hcd, Option.bind_some] at h
      simp only at h
      have nn : ∀ (x y u v : Int), bits_Mul64.f x y = some (u, v) → 0 ≤ u ∧ 0 ≤ v := by
        intro x y u v e
        unfold bits_Mul64.f at e
        injection e with e
        injection e with e1 e2
        rw [← e1, ← e2, IntKind.wrap_u64, IntKind.wrap_u64 (x * y)]
        exact ⟨Int.emod_nonneg _ (by decide), Int.emod_nonneg _ (by decide)⟩
      obtain ⟨lo, cy, hlo, hcy, hrun⟩ := add64 a d (nn _ _ _ _ hab).1 (nn _ _ _ _ hcd).2
      rw [← hlo, ← hcy] at h
      obtain rfl := Option.some.inj h
      have HLO := Aside0.mk hlo
      have HCY := Aside0.mk hcy
      clear hlo hcy h
      unfold above3
      by_cases h1 : IntKind.u64.wrap (c + cy) > a1 / 4294967296
      · rw [if_pos h1]
        have h1b : decide (a1 / 4294967296 < IntKind.u64.wrap (c + cy)) = true := decide_eq_true h1
        go_enter Try.func31, Try.ntmps31
        go_wp2_with (first | (go_at_call 32; refine (bits_Mul64.calls t1 a0 c d w2 hcd).mono ?_; rintro e w3 ⟨rfl, hd3⟩) | (go_at_call 32; refine (bits_Mul64.calls t2 a0 a b w1 hab).mono ?_; rintro e w2 ⟨rfl, hd2⟩) | (go_at_call 32; refine (bits_Mul64.calls a0 a0 t1 t2 w ht).mono ?_; rintro e w1 ⟨rfl, hd1⟩))
        go_ret
        exact ⟨rfl, drawn_trans (drawn_trans hd1 hd2) hd3⟩
      · rw [if_neg h1]
        have h1b : decide (a1 / 4294967296 < IntKind.u64.wrap (c + cy)) = false := decide_eq_false h1
        by_cases h2 : IntKind.u64.wrap (c + cy) = a1 / 4294967296
        · rw [if_pos h2]
          have h2b : (IntKind.u64.wrap (c + cy) == a1 / 4294967296) = true := by simp [h2]
          have H2 := Aside0.mk h2
          clear h2
          by_cases h3 : lo > IntKind.u64.wrap (a1 * 4294967296)
          · rw [if_pos h3]
            have h3b : decide (IntKind.u64.wrap (a1 * 4294967296) < lo) = true := decide_eq_true h3
            go_enter Try.func31, Try.ntmps31
            go_wp2_with (first | (go_at_call 32; refine (bits_Mul64.calls t1 a0 c d w2 hcd).mono ?_; rintro e w3 ⟨rfl, hd3⟩) | (go_at_call 32; refine (bits_Mul64.calls t2 a0 a b w1 hab).mono ?_; rintro e w2 ⟨rfl, hd2⟩) | (go_at_call 32; refine (bits_Mul64.calls a0 a0 t1 t2 w ht).mono ?_; rintro e w1 ⟨rfl, hd1⟩))
            go_ret
            exact ⟨rfl, drawn_trans (drawn_trans hd1 hd2) hd3⟩
          · rw [if_neg h3]
            have h3b : decide (IntKind.u64.wrap (a1 * 4294967296) < lo) = false := decide_eq_false h3
            by_cases h4 : lo = IntKind.u64.wrap (a1 * 4294967296)
            · rw [if_pos h4]
              have h4b : (lo == IntKind.u64.wrap (a1 * 4294967296)) = true := by simp [h4]
              have H4 := Aside0.mk h4
              clear h4
              go_enter Try.func31, Try.ntmps31
              go_wp2_with (first | (go_at_call 32; refine (bits_Mul64.calls t1 a0 c d w2 hcd).mono ?_; rintro e w3 ⟨rfl, hd3⟩) | (go_at_call 32; refine (bits_Mul64.calls t2 a0 a b w1 hab).mono ?_; rintro e w2 ⟨rfl, hd2⟩) | (go_at_call 32; refine (bits_Mul64.calls a0 a0 t1 t2 w ht).mono ?_; rintro e w1 ⟨rfl, hd1⟩))
              go_ret
              exact ⟨rfl, drawn_trans (drawn_trans hd1 hd2) hd3⟩
            · rw [if_neg h4]
              have h4b : (lo == IntKind.u64.wrap (a1 * 4294967296)) = false := by simp [h4]
              go_enter Try.func31, Try.ntmps31
              go_wp2_with (first | (go_at_call 32; refine (bits_Mul64.calls t1 a0 c d w2 hcd).mono ?_; rintro e w3 ⟨rfl, hd3⟩) | (go_at_call 32; refine (bits_Mul64.calls t2 a0 a b w1 hab).mono ?_; rintro e w2 ⟨rfl, hd2⟩) | (go_at_call 32; refine (bits_Mul64.calls a0 a0 t1 t2 w ht).mono ?_; rintro e w1 ⟨rfl, hd1⟩))
              go_ret
              exact ⟨rfl, drawn_trans (drawn_trans hd1 hd2) hd3⟩
        · rw [if_neg h2]
          have h2b : (IntKind.u64.wrap (c + cy) == a1 / 4294967296) = false := by simp [h2]
          go_enter Try.func31, Try.ntmps31
          go_wp2_with (first | (go_at_call 32; refine (bits_Mul64.calls t1 a0 c d w2 hcd).mono ?_; rintro e w3 ⟨rfl, hd3⟩) | (go_at_call 32; refine (bits_Mul64.calls t2 a0 a b w1 hab).mono ?_; rintro e w2 ⟨rfl, hd2⟩) | (go_at_call 32; refine (bits_Mul64.calls a0 a0 t1 t2 w ht).mono ?_; rintro e w1 ⟨rfl, hd1⟩))
          go_ret
          exact ⟨rfl, drawn_trans (drawn_trans hd1 hd2) hd3⟩
  · rw [if_neg hp] at h
    cases h

end Go.Proofs.Ytocnkfepiknglaa.PAll
