/- The plain law of B64Back: there and back; what is taken is the text of just its own bytes. -/
import Derived.Test.YtabdkmlindgkmaaPAllxBack
import Derived.Test.YtabdkmlindgkmaaPure4
set_option linter.unusedVariables false
namespace Go.Proofs.Ytabdkmlindgkmaa.Pure
open Go.RowKit Go.Proofs.Ytabdkmlindgkmaa.PAll Go.Proofs.YtabdkmlindgkmaaW.PrintWords Go.Proofs.YtabdkmlindgkmaaW.PrintLast
open Go.Proofs.Ytabdkmlindgkmaa.B64

/-- What is answered of any text t, beside bytes b and their text. -/
def backEnd (y : List Int × Int) (b : List Int) (t s : ByteArray) : Option Bool :=
  if y.2 = 10 then (if (y.1.length : Int) = 0 then (some true) else (if y.2 = 0 then (some (((strOfNums y.1).toList == (strOfNums b).toList) == (t.toList == s.toList))) else (some false)))
  else (if y.2 = 0 then (some (((strOfNums y.1).toList == (strOfNums b).toList) == (t.toList == s.toList))) else (some false))
theorem back_end (b : List Int) (hb : Byt b) (t : ByteArray) (ht : t.size ≤ 16384) : backEnd (decS t) b t (strOfNums (encT b)) = some true := by
  rw [decS_eq t ht]
  cases hd : decT (nb t) with
  | none => simp [backEnd]
  | some y =>
    obtain ⟨he, hy⟩ := encT_decT hd
    simp only [backEnd]
    rw [if_neg (by decide), if_pos trivial]
    have h1 : ((strOfNums y).toList == (strOfNums b).toList) = decide (y = b) := by
      rw [Bool.eq_iff_iff, beq_iff_eq, decide_eq_true_eq]
      exact str_inj hy hb
    have h2 : (t.toList == (strOfNums (encT b)).toList) = decide (y = b) := by
      rw [Bool.eq_iff_iff, beq_iff_eq, decide_eq_true_eq, bytes_inj, nb_str _ (encT_byt b hb), ← he]
      constructor
      · intro h
        have := congrArg decT h
        rw [decT_encT y hy, decT_encT b hb] at this
        exact Option.some.inj this
      · intro h; rw [h]
    rw [h1, h2]
    simp

theorem back_sizes (s : ByteArray) (m K : Nat) (c : Int) (hs : s.size = m) (hK : K < m) (hm : m ≤ 4001) :
    (s.extract 0 K).size + (strOfNums [c]).size ≤ 9223372036854775807 ∧ (s.extract 0 K ++ strOfNums [c]).size + (s.extract (K + 1) m).size ≤ 9223372036854775807 ∧
      (s.extract 0 K ++ strOfNums [c] ++ s.extract (K + 1) m).size ≤ 16384 ∧ ((K + 1 : Nat) : Int) ≤ (m : Int) ∧ (0 : Int) ≤ ((K + 1 : Nat) : Int) ∧ (0 : Int) ≤ (K : Int) ∧ (K : Int) ≤ (m : Int) ∧ ¬ (m : Int) = 0 ∧ wrap64 ((K : Int) + 1) = ((K + 1 : Nat) : Int) := by
  have hz1 : (s.extract 0 K).size = K := by rw [ByteArray.size_extract]; omega
  have hz2 : (s.extract (K + 1) m).size = m - (K + 1) := by rw [ByteArray.size_extract]; omega
  have hz3 : (strOfNums [c]).size = 1 := by rw [strOfNums_size]; rfl
  have hz4 : (s.extract 0 K ++ strOfNums [c]).size = K + 1 := by rw [ByteArray.size_append, hz1, hz3]
  have hz5 : (s.extract 0 K ++ strOfNums [c] ++ s.extract (K + 1) m).size = m := by rw [ByteArray.size_append, hz4, hz2]; omega
  rw [hz4, hz5, hz1, hz2, hz3]
  exact ⟨by omega, by omega, by omega, by omega, by omega, by omega, by omega, by omega, by unfold wrap64; omega⟩
theorem B64Back : latchkeylaw04_B64Back.Pure := by
  intro l a c h1 h2 hw ha hc
  have hb := wf_byt hw
  refine ⟨100 * l.length + 151, ?_⟩
  unfold latchkeylaw04_B64Back.f
  rw [awake _ (by omega)]
  simp only [Option.bind_some, if_true]
  by_cases h : (l.length : Int) > 3000
  · rw [if_pos h]
  · rw [if_neg h, enc_f l (by omega) hb _ (by omega)]
    simp only [Option.bind_some]
    have hs : (strOfNums (encT l)).size = (8 * l.length + 5) / 6 := by rw [strOfNums_size, encT_length]
    have hd : decS (strOfNums (encT l)) = (l, 0) := by
      rw [decS_eq _ (by rw [hs]; omega), nb_str _ (encT_byt l hb), decT_encT l hb]
    unfold b64_Decode.f
    rw [hd]
    simp only [Option.bind_some, if_true]
    have hlen : wrap64 (Int.tdiv (wrap64 (wrap64 (8 * (l.length : Int)) + 5)) 6) = (((8 * l.length + 5) / 6 : Nat) : Int) := by
      rw [show wrap64 (8 * (l.length : Int)) = 8 * (l.length : Int) by unfold wrap64; omega, show wrap64 (8 * (l.length : Int) + 5) = 8 * (l.length : Int) + 5 by unfold wrap64; omega, Int.tdiv_eq_ediv_of_nonneg (by omega)]
      have hc : (((8 * l.length + 5) / 6 : Nat) : Int) = (8 * (l.length : Int) + 5) / 6 := by push_cast; rfl
      rw [hc]
      unfold wrap64; omega
    rw [hlen, hs]
    rw [show ((((8 * l.length + 5) / 6 : Nat) : Int) != (((8 * l.length + 5) / 6 : Nat) : Int)) = false by simp]
    obtain ⟨m, hm⟩ : ∃ m, (8 * l.length + 5) / 6 = m := ⟨_, rfl⟩
    rw [hm] at hs
    have hm0 : m ≤ 4001 := by omega
    have hend := fun t ht => back_end l hb t ht
    generalize strOfNums (encT l) = s at hs hd hend ⊢
    obtain ⟨k, hk⟩ : ∃ k, k + 1 = 100 * l.length + 151 := ⟨_, rfl⟩
    rw [← hk]
    simp only [latchkeylaw04_B64Back.j0]
    rw [if_neg (by decide), hs]
    by_cases hm1 : m = 0
    · rw [if_pos (by omega)]
    · rw [if_neg (by omega)]
      have hu : IntKind.u64.wrap (m : Int) = (m : Int) := by rw [IntKind.wrap_u64]; omega
      have ha0 : 0 ≤ IntKind.u64.wrap a := by rw [IntKind.wrap_u64]; omega
      obtain ⟨K, hK, hKm⟩ : ∃ K : Nat, wrap64 (Int.tmod (IntKind.u64.wrap a) (m : Int)) = (K : Int) ∧ K < m := by
        rw [Int.tmod_eq_emod_of_nonneg ha0]
        have h0 := Int.emod_nonneg (IntKind.u64.wrap a) (b := (m : Int)) (by omega)
        have h1 := Int.emod_lt_of_pos (IntKind.u64.wrap a) (b := (m : Int)) (by omega)
        exact ⟨(IntKind.u64.wrap a % (m : Int)).toNat, by unfold wrap64; omega, by omega⟩
      rw [hu, hK]
      obtain ⟨c1, c2, c3, c4, c5, c6, c7, c8, c9⟩ := back_sizes s m K c hs hKm hm0
      rw [if_neg c8, c9, if_pos c6, if_pos c7]
      simp only [Int.toNat_natCast, Option.bind_some]
      rw [if_pos c1, if_pos c5, if_pos c4, if_pos c2]
      exact hend (s.extract 0 K ++ strOfNums [c] ++ s.extract (K + 1) m) c3

end Go.Proofs.Ytabdkmlindgkmaa.Pure
