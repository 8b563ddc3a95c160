/- The acts that come into SessPlays, as they read. -/
import Derived.Test.YtphbpcmncelkhaaTwo
import Derived.Deep.Slices
namespace Go.Proofs.Ytphbpcmncelkhaa.Sess
open Go.ChangeShapes Go.WideShapes Go.ChangeAt Go.RowKit Go.Deep
set_option linter.unusedVariables false

theorem acts_open {H : Type} {enc : TypeId × Value → H} {W : World} {base : Nat} {spare : Nat → Bool} {held : Bool} {A : Option Addr} {len cap : Nat} {d : DataW H} {p : List MemPlace} (hd : DataW.Trod enc Try.prog W base spare held 41 (.slice A len cap) d p) :
    len ≤ 9223372036854775807 ∧ ActsAt W A len := by
  obtain ⟨fuel, hf⟩ := hd
  have z47 : Try.prog.cellsOf 47 = 8 := by kernel_rfl
  rcases open_slice Try.underlying41 hf with ⟨hcs, _⟩ | ⟨a, l, c, m, n, D, Pl, hcs, _, hl, hm, hmm, _, hel⟩
  · simp [Value.cells] at hcs
    obtain ⟨rfl, rfl, rfl⟩ := hcs
    exact ⟨Nat.zero_le _, .inl rfl⟩
  · simp [Value.cells] at hcs
    obtain ⟨rfl, rfl, rfl⟩ := hcs
    have hlm : len ≤ m := by rw [hmm]; split <;> omega
    refine ⟨Nat.le_trans hl hm, ?_⟩
    rcases Nat.eq_zero_or_pos len with h0 | h0
    · exact .inl h0
    · right
      have act : ∀ i, i < len → ∃ (kd u d z h : Int) (raw reg : Bool) (nw : Int), ActAt W (a.add (i * 8)) kd u d z h raw reg nw ∧ (0 ≤ kd ∧ kd ≤ 255) ∧ 0 ≤ u ∧ 0 ≤ z ∧ (0 ≤ h ∧ h ≤ 18446744073709551615) ∧ (0 ≤ nw ∧ nw ≤ 18446744073709551615) := by
        intro i hi
        obtain ⟨cs', h1, h2⟩ := hel i (by omega)
        obtain ⟨kd, u, d, z, h, raw, reg, nw, rfl, b1, b2, b3, b4, b5⟩ := act_open2 h2
        rw [z47] at h1
        exact ⟨kd, u, d, z, h, raw, reg, nw, cells8 h1, b1, b2, b3, b4, b5⟩
      refine ⟨a, rfl, ?_, act⟩
      obtain ⟨kd, u, d, z, h, raw, reg, nw, hact, _⟩ := act 0 h0
      have := World.block_lt_of_cell? _ _ hact.1
      simpa [Addr.add] using this

end Go.Proofs.Ytphbpcmncelkhaa.Sess
