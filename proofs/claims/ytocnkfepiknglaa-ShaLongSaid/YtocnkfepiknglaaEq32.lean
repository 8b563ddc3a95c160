/- Arrays of 32 bytes compared with themselves. -/
import Derived.Test.YtocnkfepiknglaaAwake
import Derived.Stop.BytesEq
namespace Go.Proofs.Ytocnkfepiknglaa.PAll
open Go.RowKit Go.Proofs.YtocnkfepiknglaaW.PrintWords Go.Proofs.YtocnkfepiknglaaW.PrintLast Go.Proofs.YtocnkfepiknglaaW.PrintMore
set_option linter.unusedVariables false
set_option linter.unusedSimpArgs false

theorem arr32_cells (xs : List Int) (h : ByteL xs) : arr32 xs = ((xs.map fun x => UInt8.ofNat x.toNat).map Extern.Stop.cell).toArray := by
  unfold arr32
  rw [List.map_map]
  congr 1
  refine List.map_congr_left fun x hx => ?_
  obtain ⟨h0, h1⟩ := h x hx
  show Value.int .u8 x = Value.int .u8 ((UInt8.ofNat x.toNat).toNat : Int)
  congr 1
  rw [UInt8.toNat_ofNat']
  omega
theorem eq32_same (xs : List Int) (h : ByteL xs) (hl : xs.length = 32) (w : World) : (Op.equalIn 10000 24 (.agg (arr32 xs)) (.agg (arr32 xs))).run Try.prog w = .ok true w := by
  rw [arr32_cells xs h]
  have := run_equalIn_bytes (P := Try.prog) w 9998 24 5 32 Try.underlying24 Try.underlying5 (fun w => by
    obtain ⟨i0, hi, hzz⟩ := Option.map_eq_some_iff.1 infoB
    simp only [Prod.mk.injEq] at hzz
    obtain ⟨hz0, hz1, hz2⟩ := hzz
    simp [sizeOf, typeInfo, hi, hz1]) (xs.map fun x => UInt8.ofNat x.toNat) (xs.map fun x => UInt8.ofNat x.toNat) (by simpa using hl) (by simpa using hl)
  rw [this]
  simp
theorem byteL_set {xs : List Int} (h : ByteL xs) (i : Nat) {y : Int} (hy : 0 ≤ y ∧ y ≤ 255) : ByteL (xs.set i y) := fun x hx => by
  rcases List.mem_or_eq_of_mem_set hx with h' | rfl
  · exact h x h'
  · exact hy
theorem byteL_outs (h : List Int) : ∀ i, ByteL (outs h i)
  | 0 => fun x hx => by
    have := (List.mem_replicate.1 hx).2
    subst this
    decide
  | i + 1 => byteL_set (byteL_outs h i) i ⟨Int.emod_nonneg _ (by decide), by have := Int.emod_lt_of_pos (rd h ((i / 4 : Nat) : Int) / 2 ^ (24 - 8 * (i % 4))) (show (0 : Int) < 256 by decide); unfold outB; omega⟩
theorem eq_hash (b : List Int) (w : World) : (Op.equalIn 10000 24 (.agg (arr32 (hashL b))) (.agg (arr32 (hashL b)))).run Try.prog w = .ok true w := eq32_same _ (byteL_outs _ _) (outs_length _ _) w
theorem eq_zeros (w : World) : (Op.equalIn 10000 24 (.agg (arr32 zeros32)) (.agg (arr32 zeros32))).run Try.prog w = .ok true w := eq32_same _ (byteL_outs [] 0) rfl w
theorem eq_zeros_lit (w : World) : (Op.equalIn 10000 24 (.agg (arr32 zeros32)) (.agg #[.int .u8 0, .int .u8 0, .int .u8 0, .int .u8 0, .int .u8 0, .int .u8 0, .int .u8 0, .int .u8 0, .int .u8 0, .int .u8 0, .int .u8 0, .int .u8 0, .int .u8 0, .int .u8 0, .int .u8 0, .int .u8 0, .int .u8 0, .int .u8 0, .int .u8 0, .int .u8 0, .int .u8 0, .int .u8 0, .int .u8 0, .int .u8 0, .int .u8 0, .int .u8 0, .int .u8 0, .int .u8 0, .int .u8 0, .int .u8 0, .int .u8 0, .int .u8 0])).run Try.prog w = .ok true w := eq_zeros w
theorem of_nil (w : World) : Calls Try.prog 9 #[.slice none 0 0] w fun e w' => e = .returned (.agg (arr32 (hashL []))) ∧ Below w.heap.size w w' :=
  of_calls (w := w) (b := []) (A := none) 0 (bytes_C (bytes_nil w 0)).1 (fun a h => by cases h) (fun x hx => by simp at hx) (by decide)

set_option maxHeartbeats 8000000 in
set_option maxRecDepth 100000 in
theorem shaNil_walk (A : Option Addr) (n c : Nat) (w : World) : Calls Try.prog 6 #[.slice A n c] w fun e w' => e = .returned (.bool true) ∧ Below w.heap.size w w' := by
  have he0 := eq_zeros_lit
  have he1 := eq_hash []
  go_enter Try.func6, Try.ntmps6
  go_wp2_with (first | (go_at_call 8; (with_reducible refine (awake_calls _).mono ?_); rintro e w1 ⟨rfl, hb1⟩; have HB1 := Aside0.mk hb1; clear hb1) | (go_at_call 12; (with_reducible refine (put_nil A n c _).mono ?_); rintro e w2 ⟨rfl, rfl⟩) | (go_at_call 13; (with_reducible refine (sum_nil _).mono ?_); rintro e w3 ⟨rfl, hb3⟩; have HB3 := Aside0.mk hb3; clear hb3) | (go_at_call 11; (with_reducible refine (new_in _).mono ?_); rintro e w4 ⟨g, rfl, hi4, hb4⟩; have HI4 := Aside0.mk hi4; have HB4 := Aside0.mk hb4; clear hb4 hi4) | (go_at_call 13; (with_reducible refine (sum_in HI4.out).mono ?_); rintro e w5 ⟨rfl, hi5, hb5⟩; have HB5 := Aside0.mk hb5; clear hb5 hi5) | (go_at_call 9; (with_reducible refine (of_nil _).mono ?_); rintro e w6 ⟨rfl, hb6⟩; have HB6 := Aside0.mk hb6; clear hb6))
  go_ret
  have s1 := HB1.out.size
  have s3 := HB3.out.size
  have s4 := HB4.out.size
  have s5 := HB5.out.size
  exact ⟨rfl, (HB1.out.trans (HB3.out.mono s1)).trans ((HB4.out.mono (by omega)).trans ((HB5.out.mono (by omega)).trans (HB6.out.mono (by omega))))⟩
end Go.Proofs.Ytocnkfepiknglaa.PAll
