/- What a draw of a session comes to, and a session of an act. -/
import Derived.Test.YtphbpcmncelkhaaBook12
import Derived.Test.YtphbpcmncelkhaaPSessPlaysx2
import Derived.Test.YtphbpcmncelkhaaPSessPlaysx3
namespace Go.Proofs.Ytphbpcmncelkhaa.Sess
open Go.RowKit Go.Proofs.YtphbpcmncelkhaaW.PrintWords Go.Proofs.YtphbpcmncelkhaaW.PrintLast Go.Proofs.YtphbpcmncelkhaaW.PrintMore Go.Proofs.Ytphbpcmncelkhaa.PSessPlays
set_option linter.unusedVariables false
set_option linter.unusedSimpArgs false

/-- The draw that the law's own function makes of a number, m bytes long. -/
def drawL (n : Int) (m : Nat) : List Int := (List.range m).map fun (i : Nat) => (n + ((i : Int) % 256)) % 256

theorem drawL_length (n : Int) (m : Nat) : (drawL n m).length = m := by simp [drawL]

theorem drawL_succ (n : Int) (m : Nat) : drawL n (m + 1) = drawL n m ++ [(n + ((m : Int) % 256)) % 256] := by
  simp only [drawL, List.range_succ, List.map_append, List.map_cons, List.map_nil]

theorem draw_loop (n : Int) (m : Nat) (hm : m ≤ 1000) : ∀ (d i k : Nat), m - i = d → i ≤ m → d < k →
    latchkeyhand18_Draw.l0 k n m (drawL n i ++ List.replicate (m - i) 0) i = some (drawL n m) := by
  intro d
  induction d with
  | zero =>
    intro i k hd hi hk
    obtain ⟨k, rfl⟩ : ∃ j, k = j + 1 := ⟨k - 1, by omega⟩
    have hi2 : i = m := by omega
    subst hi2
    simp only [latchkeyhand18_Draw.l0]
    rw [if_neg (by omega)]
    simp
  | succ d ih =>
    intro i k hd hi hk
    obtain ⟨k, rfl⟩ : ∃ j, k = j + 1 := ⟨k - 1, by omega⟩
    have hlen : (drawL n i ++ List.replicate (m - i) (0 : Int)).length = m := by
      rw [List.length_append, drawL_length, List.length_replicate]; omega
    simp only [latchkeyhand18_Draw.l0]
    rw [if_pos (by omega), if_pos (by omega), if_pos (by rw [hlen]; omega)]
    have hw : wrap64 ((i : Int) + 1) = ((i + 1 : Nat) : Int) := by unfold wrap64; omega
    rw [hw]
    have hset : (drawL n i ++ List.replicate (m - i) (0 : Int)).set ((i : Int)).toNat ((n + ((i : Int) % 256)) % 256) = drawL n (i + 1) ++ List.replicate (m - (i + 1)) 0 := by
      rw [show ((i : Int)).toNat = i from by omega, drawL_succ, List.set_append_right _ _ (by rw [drawL_length]; omega), drawL_length,
        show i - i = 0 by omega]
      obtain ⟨j, hj⟩ : ∃ j, m - i = j + 1 := ⟨m - i - 1, by omega⟩
      rw [hj, List.replicate_succ, List.set_cons_zero, show m - (i + 1) = j by omega, List.append_assoc]; rfl
    rw [hset]
    exact ih (i + 1) k (by omega) (by omega) (by omega)

theorem draw_f (n : Int) (m : Nat) (hm : m ≤ 1000) : latchkeyhand18_Draw.f (m + 1) n m = some (drawL n m) := by
  unfold latchkeyhand18_Draw.f
  rw [if_pos (by omega), if_pos (by omega)]
  have h := draw_loop n m hm m 0 (m + 1) (by omega) (by omega) (by omega)
  simpa [drawL] using h

theorem draw_ge (n : Int) (m : Nat) (hm : m ≤ 1000) (k : Nat) (hk : m + 1 ≤ k) : latchkeyhand18_Draw.f k n m = some (drawL n m) := by
  obtain ⟨j, rfl⟩ : ∃ j, k = m + 1 + j := ⟨k - (m + 1), by omega⟩
  clear hk
  induction j with
  | zero => exact draw_f n m hm
  | succ j ih => exact latchkeyhand18_Draw.mono n m (m + 1 + j) _ ih

/-- The users of the acts; a session of an act always comes. -/
def usersL : List ByteArray := [(⟨#[117]⟩ : ByteArray), (⟨#[118]⟩ : ByteArray), (⟨#[]⟩ : ByteArray), strOfNums (List.replicate 64 0), strOfNums (List.replicate 65 0)]
theorem session_tot (kd u d z h : Int) (raw reg : Bool) (now : Int) (hu : 0 ≤ u) (hz : 0 ≤ z) :
    ∃ s : S34, ∀ k, 100 ≤ k → latchkeylaw20_session.f k kd u d z h raw reg now = some (s.f0, s.f1, s.f2, s.f3, s.f4, s.f5) := by
  unfold latchkeylaw20_session.f
  simp only [Option.bind_some]
  cases raw with
  | false =>
    refine ⟨⟨h, rdOf ByteArray.empty usersL 0, drawL (Int.tmod d 12) 20, now, reg, !reg⟩, fun k hk => ?_⟩
    rw [if_pos (by omega), if_pos (by omega), if_neg (by decide), if_pos (by simp), show (20 : Int) = ((20 : Nat) : Int) from rfl, draw_ge _ 20 (by omega) k (by omega), Option.bind_some]; rfl
  | true =>
    have h1 : 0 ≤ Int.tmod z 6 ∧ Int.tmod z 6 < 6 := ⟨Int.tmod_nonneg _ hz, by rw [Int.tmod_eq_emod_of_nonneg hz]; omega⟩
    have h2 : 0 ≤ wrap64 (Int.tmod u 5) ∧ wrap64 (Int.tmod u 5) < 5 := by rw [Int.tmod_eq_emod_of_nonneg hu]; unfold wrap64; omega
    have h3 : ∃ m : Nat, m ≤ 65 ∧ rd [16, 64, 15, 65, 20, 0] (Int.tmod z 6) = (m : Int) := by
      obtain ⟨t, ht⟩ : ∃ t, t = Int.tmod z 6 := ⟨_, rfl⟩
      rw [← ht] at h1 ⊢
      obtain rfl | rfl | rfl | rfl | rfl | rfl : t = 0 ∨ t = 1 ∨ t = 2 ∨ t = 3 ∨ t = 4 ∨ t = 5 := by omega
      · exact ⟨16, by omega, rfl⟩
      · exact ⟨64, by omega, rfl⟩
      · exact ⟨15, by omega, rfl⟩
      · exact ⟨65, by omega, rfl⟩
      · exact ⟨20, by omega, rfl⟩
      · exact ⟨0, by omega, rfl⟩
    obtain ⟨m, hm, h3⟩ := h3
    refine ⟨⟨h, rdOf ByteArray.empty usersL (wrap64 (Int.tmod u 5)), drawL (Int.tmod d 12) m, now, reg, !reg⟩, fun k hk => ?_⟩
    rw [if_pos (by omega), if_pos (by omega), if_pos rfl, if_pos h1.1, if_pos (by simpa using h1.2), if_pos h2.1, if_pos (by simpa using h2.2), h3, draw_ge _ m (by omega) k (by omega), Option.bind_some]; rfl

end Go.Proofs.Ytphbpcmncelkhaa.Sess
