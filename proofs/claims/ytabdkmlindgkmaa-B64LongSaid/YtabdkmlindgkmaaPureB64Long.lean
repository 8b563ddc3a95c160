/- The plain law of B64Long: 16384 signs are taken, more are refused. -/
import Derived.Test.YtabdkmlindgkmaaPAllxLong
import Derived.Test.YtabdkmlindgkmaaPure4
set_option linter.unusedVariables false
namespace Go.Proofs.Ytabdkmlindgkmaa.Pure
open Go.RowKit Go.Proofs.Ytabdkmlindgkmaa.PAll Go.Proofs.YtabdkmlindgkmaaW.PrintWords Go.Proofs.YtabdkmlindgkmaaW.PrintLast
open Go.Proofs.Ytabdkmlindgkmaa.B64

theorem decT_zeros (g : Nat) : decT (List.replicate (4 * g) 65) = some (List.replicate (3 * g) 0) := by
  have hgood : goodT (List.replicate (4 * g) 65) = true := by
    simp only [goodT, List.all_eq_true, decide_eq_true_eq]
    intro x hx
    rw [List.eq_of_mem_replicate hx]
    decide
  have hmap : (List.replicate (4 * g) (65 : Int)).map val = List.replicate (4 * g) 0 := by rw [List.map_replicate]; rfl
  have hboth : okV (List.replicate (4 * g) 0) = true ∧ decV (List.replicate (4 * g) 0) = List.replicate (3 * g) 0 := by
    induction g with
    | zero => simp [okV, decV]
    | succ g ih =>
      have h4 : List.replicate (4 * (g + 1)) (0 : Int) = 0 :: 0 :: 0 :: 0 :: List.replicate (4 * g) 0 := by
        rw [show 4 * (g + 1) = 4 * g + 1 + 1 + 1 + 1 by omega]; simp only [List.replicate_succ]
      have h3 : List.replicate (3 * (g + 1)) (0 : Int) = 0 :: 0 :: 0 :: List.replicate (3 * g) 0 := by
        rw [show 3 * (g + 1) = 3 * g + 1 + 1 + 1 by omega]; simp only [List.replicate_succ]
      rw [h4, h3]
      have hgood' : goodT (List.replicate (4 * g) 65) = true := by
        simp only [goodT, List.all_eq_true, decide_eq_true_eq]
        intro x hx
        rw [List.eq_of_mem_replicate hx]
        decide
      obtain ⟨i1, i2⟩ := ih hgood' (by rw [List.map_replicate]; rfl)
      exact ⟨by simp only [okV]; exact i1, by simp only [decV]; rw [i2]; rfl⟩
  unfold decT
  rw [hmap, if_pos ⟨hgood, hboth.1⟩, hboth.2]

/-- The list is filled from place i on. -/
theorem fill_loop (n : Nat) (hn : n ≤ 20000) (x3 : Int) (d : Nat) : ∀ (i k : Nat), i + d = n → d + 1 ≤ k →
    latchkeylaw04_B64Long.l0 k x3 (List.replicate i 65 ++ List.replicate d 0) (n : Int) (i : Int) = latchkeylaw04_B64Long.l0 (k - d) x3 (List.replicate n 65) (n : Int) (n : Int) := by
  induction d with
  | zero =>
    intro i k hi hk
    obtain rfl : i = n := by omega
    simp
  | succ d ih =>
    intro i k hi hk
    obtain ⟨k, rfl⟩ : ∃ m, k = m + 1 := ⟨k - 1, by omega⟩
    have hl : (List.replicate i (65 : Int) ++ List.replicate (d + 1) 0).length = n := by simp; omega
    have e : latchkeylaw04_B64Long.l0 (k + 1) x3 (List.replicate i 65 ++ List.replicate (d + 1) 0) (n : Int) (i : Int) = latchkeylaw04_B64Long.l0 k x3 ((List.replicate i (65 : Int) ++ List.replicate (d + 1) 0).set i 65) (n : Int) ((i + 1 : Nat) : Int) := by
      simp only [latchkeylaw04_B64Long.l0]
      rw [if_pos (by omega), if_pos (by omega), if_pos (by rw [hl]; omega), Int.toNat_natCast, show wrap64 ((i : Int) + 1) = ((i + 1 : Nat) : Int) by unfold wrap64; omega]
    have hset : (List.replicate i (65 : Int) ++ List.replicate (d + 1) 0).set i 65 = List.replicate (i + 1) 65 ++ List.replicate d 0 := by
      rw [List.set_append_right _ _ (by simp)]
      rw [List.length_replicate, Nat.sub_self, List.replicate_succ (n := d), List.set_cons_zero, List.replicate_succ' (n := i)]
      simp
    rw [e, hset, ih (i + 1) k (by omega) (by omega), show k + 1 - (d + 1) = k - d by omega]

theorem B64Long : latchkeylaw04_B64Long.Pure := by
  intro a ha
  have hab : 0 ≤ a ∧ a < 256 := wf_byt (l := [a]) (by simpa using ha) a (by simp)
  obtain ⟨r, hr, hr3⟩ : ∃ r : Nat, Int.tmod a 3 = (r : Int) ∧ r < 3 := ⟨(Int.tmod a 3).toNat, by rw [Int.tmod_eq_emod_of_nonneg hab.1]; omega, by rw [Int.tmod_eq_emod_of_nonneg hab.1]; omega⟩
  refine ⟨20000, ?_⟩
  unfold latchkeylaw04_B64Long.f
  rw [awake _ (by omega)]
  simp only [Option.bind_some, if_true]
  have hw : wrap64 (16384 + wrap64 (4 * wrap64 (Int.tmod a 3))) = ((16384 + 4 * r : Nat) : Int) := by
    rw [hr]
    unfold wrap64
    omega
  rw [hw, if_pos (by omega), Int.toNat_natCast, if_pos (by omega), List.length_replicate]
  have hf := fill_loop (16384 + 4 * r) (by omega) ((16384 + 4 * r : Nat) : Int) (16384 + 4 * r) 0 20000 (by omega) (by omega)
  rw [List.replicate_zero, List.nil_append] at hf
  refine Eq.trans hf ?_
  obtain ⟨k, hk⟩ : ∃ k, 20000 - (16384 + 4 * r) = k + 1 := ⟨20000 - (16384 + 4 * r) - 1, by omega⟩
  rw [hk]
  simp only [latchkeylaw04_B64Long.l0]
  rw [if_neg (by omega)]
  have hb : Byt (List.replicate (16384 + 4 * r) 65) := fun x hx => by rw [List.eq_of_mem_replicate hx]; omega
  have hsz : (strOfNums (List.replicate (16384 + 4 * r) 65)).size = 16384 + 4 * r := by rw [strOfNums_size, List.length_replicate]
  unfold b64_Decode.f
  simp only [Option.bind_some]
  by_cases h0 : r = 0
  · subst h0
    rw [if_neg (by omega)]
    rw [decS_eq _ (by rw [hsz]; omega), nb_str _ hb, show 16384 + 4 * 0 = 4 * 4096 by omega, decT_zeros]
    simp only [if_true]
    rw [List.length_replicate]
    decide +kernel
  · rw [if_pos (by omega), decS_long _ (by rw [hsz]; omega)]
    simp

end Go.Proofs.Ytabdkmlindgkmaa.Pure
