/- SessNil's walk. -/
import Derived.Test.YtphbpcmncelkhaaBook14
namespace Go.Proofs.Ytphbpcmncelkhaa.Sess
open Go.RowKit Go.Shelf Go.Proofs.YtphbpcmncelkhaaW.PrintWords Go.Proofs.YtphbpcmncelkhaaW.PrintLast Go.Proofs.YtphbpcmncelkhaaW.PrintMore Go.Proofs.Ytphbpcmncelkhaa.PSessPlays
set_option linter.unusedVariables false
set_option linter.unusedSimpArgs false

theorem eight {w : World} {B t : Nat} {a b c d e f g h : Value} (k : w.heap[B]? = some (.cells #[a, b, c, d, e, f, g, h] t (0, 0))) :
    w.cell? ⟨B, 0, none⟩ = some a ∧ w.cell? ⟨B, 1, none⟩ = some b ∧ w.cell? ⟨B, 2, none⟩ = some c ∧ w.cell? ⟨B, 3, none⟩ = some d ∧ w.cell? ⟨B, 4, none⟩ = some e ∧ w.cell? ⟨B, 5, none⟩ = some f ∧ w.cell? ⟨B, 6, none⟩ = some g ∧ w.cell? ⟨B, 7, none⟩ = some h :=
  ⟨(blk_cell k 0).trans rfl, (blk_cell k 1).trans rfl, (blk_cell k 2).trans rfl, (blk_cell k 3).trans rfl, (blk_cell k 4).trans rfl, (blk_cell k 5).trans rfl, (blk_cell k 6).trans rfl, (blk_cell k 7).trans rfl⟩

theorem same_zero (A : Option Addr) (c : Nat) (w : World) : Calls Try.prog 15 #[.agg #[.int .u64 0, .string ⟨#[]⟩, .slice none 0 0, .int .u64 0, .bool false, .bool false], .agg #[.int .u64 0, .string ⟨#[]⟩, .slice none 0 0, .int .u64 0, .bool false, .bool false]] w fun e w' => e = .returned (.bool true) ∧ Below w.heap.size w w' :=
  latchkeyref20_SameSessions.calls 0 ⟨#[]⟩ none 0 [] 0 false false 0 ⟨#[]⟩ none 0 [] 0 false false true w (Kd.C_nil _ _) (Nat.le_refl _) (Kd.C_nil _ _) (Nat.le_refl _) (by simp [latchkeyref20_SameSessions.f])

set_option maxHeartbeats 4000000 in
theorem nil_walk (kd u d z h : Int) (raw reg : Bool) (nw now : Int) (hu : 0 ≤ u) (hz : 0 ≤ z) (w : World) :
    Calls Try.prog 6 #[.agg #[.int .u8 kd, .int .u8 u, .int .u8 d, .int .u8 z, .int .u64 h, .bool raw, .bool reg, .int .u64 nw], .int .u64 now] w fun e w' => e = .returned (.bool true) ∧ Below w.heap.size w w' := by
  obtain ⟨s, hs⟩ := session_tot kd u d z h raw reg nw hu hz
  have hu47 := Try.underlying47
  have hu34 := Try.underlying34
  go_enter Try.func6, Try.ntmps6
  go_wp2_with (first | (go_at_call 7; obtain ⟨W0, hW0, hx0, hB0⟩ : ∃ W0, W0 = w.alloc (.cells #[.int .u8 kd, .int .u8 u, .int .u8 d, .int .u8 z, .int .u64 h, .bool raw, .bool reg, .int .u64 nw] 47) ∧ W0.heap[w.heap.size]? = some (.cells #[.int .u8 kd, .int .u8 u, .int .u8 d, .int .u8 z, .int .u64 h, .bool raw, .bool reg, .int .u64 nw] 47 (0, 0)) ∧ Below w.heap.size w W0 := ⟨_, rfl, blk_new _ _, below_alloc (Below.refl _ _) _⟩; rw [← hW0]; clear hW0; refine (awake_calls _).mono ?_; rintro e w1 ⟨rfl, hb1⟩; have hx1 := (hb1.block _ (blk_lt hx0)).trans hx0; obtain ⟨q0, q1, q2, q3, q4, q5, q6, q7⟩ := eight hx1; have hlt1 := blk_lt hx1; have HX1 := Aside0.mk hx1; have HB1 := Aside0.mk (hB0.trans (hb1.mono hB0.size)); clear hb1 hx1 hx0 hB0) | (go_at_call 12; refine (latchkeylaw20_session.calls 100 kd u d z h raw reg nw _ _ _ _ _ _ _ (hs 100 (Nat.le_refl _))).mono ?_; rintro e w2 ⟨v2, rfl, hv2, hb2⟩; obtain ⟨A, c, rfl⟩ := Kd.R_slice hv2; clear hv2; have HB2 := Aside0.mk hb2; clear hb2) | (go_at_call 9; refine (begin_nil ⟨s.f0, s.f3, s.f1, A, s.f2.length, c, s.f4, s.f5⟩ now _).mono ?_; rintro e w3 ⟨rfl, hb3⟩; have hx3 := ((hb3.block _ (by have := HB2.out.size; omega)).trans (HB2.out.block _ hlt1)).trans HX1.out; obtain ⟨r0, r1, r2, r3, r4, r5, r6, r7⟩ := eight hx3; have hlt3 := blk_lt hx3; have HB3 := Aside0.mk (HB1.out.trans ((HB2.out.trans (hb3.mono HB2.out.size)).mono HB1.out.size)); clear hb3) | (go_at_call 11; refine (take_nil _ _ _).mono ?_; rintro e w4 ⟨rfl, hb4⟩; have HB4 := Aside0.mk (HB3.out.trans (hb4.mono HB3.out.size)); clear hb4) | (go_at_call 15; obtain ⟨W5, hW5, hB5⟩ : ∃ W5, W5 = w4.alloc (.cells #[.int .u64 0, .string ⟨#[]⟩, .slice none 0 0, .int .u64 0, .bool false, .bool false] 34) ∧ Below w.heap.size w W5 := ⟨_, rfl, below_alloc HB4.out _⟩; rw [← hW5]; clear hW5; refine (same_zero none 0 _).mono ?_; rintro e w5 ⟨rfl, hb5⟩; have HB5 := Aside0.mk (hB5.trans (hb5.mono hB5.size)); clear hb5 hB5) | (go_at_call 16; refine (live_nil _ _).mono ?_; rintro e w6 ⟨rfl, hb6⟩; have HB6 := Aside0.mk (HB5.out.trans (hb6.mono HB5.out.size)); clear hb6))
  go_ret
  exact ⟨rfl, HB6.out⟩

end Go.Proofs.Ytphbpcmncelkhaa.Sess
