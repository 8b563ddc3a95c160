/- What b64.Decode ('decS') and latchkeyref03.Decode come to: decT (plain). -/
import Derived.Test.YtabdkmlindgkmaaPure1
import Derived.Test.YtabdkmlindgkmaaDec
set_option linter.unusedVariables false
set_option linter.unusedSimpArgs false
namespace Go.Proofs.Ytabdkmlindgkmaa.B64
open Go.RowKit Go.Proofs.YtabdkmlindgkmaaW.PrintWords Go.Proofs.YtabdkmlindgkmaaW.PrintLast Go.Proofs.YtabdkmlindgkmaaW.PrintMore
open Go.Proofs.Ytabdkmlindgkmaa.PAll

/-! ### strings and lists of numbers -/
/-- A string's bytes as numbers. -/
def nb (s : ByteArray) : List Int := s.data.toList.map fun x => (x.toNat : Int)
theorem nb_length (s : ByteArray) : (nb s).length = s.size := by simp [nb]
theorem nb_byt (s : ByteArray) : Byt (nb s) := fun x hx => by
  obtain ⟨b, _, rfl⟩ := List.mem_map.1 hx
  have := b.toNat_lt
  omega
theorem nb_get (s : ByteArray) (i : Nat) (h : i < s.size) : (nb s)[i]? = some ((s[i]'h).toNat : Int) := by
  unfold nb
  rw [List.getElem?_map, List.getElem?_eq_getElem (by simpa using h)]
  rfl
theorem nb_drop (s : ByteArray) (i : Nat) (h : i < s.size) : (nb s).drop i = ((s[i]'h).toNat : Int) :: (nb s).drop (i + 1) := by
  have hl : i < (nb s).length := by rw [nb_length]; exact h
  rw [List.drop_eq_getElem_cons hl]
  congr 1
  have := nb_get s i h
  rw [List.getElem?_eq_getElem hl] at this
  exact Option.some.inj this
theorem bt_nb (s : ByteArray) (i : Nat) (h : i < s.size) : bt s (i : Int) = ((s[i]'h).toNat : Int) := by
  unfold bt
  rw [dif_pos (by simpa using h)]
  simp

/-! ### b64.Decode: by groups of four signs -/
/-- The rest of a text, four signs at a time, acc's bits being of no more meaning. -/
theorem decP_bad (s : ByteArray) : ∀ (fuel pos : Nat) (acc n : Int) (out : List Int), pos + fuel ≥ s.size → (∃ j, pos ≤ j ∧ ∃ h : j < s.size, val ((s[j]'h).toNat : Int) < 0) → decP s fuel pos acc n out = ([], 10)
  | 0, pos, acc, n, out, hf, ⟨j, hj, h, hv⟩ => by omega
  | fuel + 1, pos, acc, n, out, hf, ⟨j, hj, h, hv⟩ => by
    have hp : pos < s.size := by omega
    simp only [decP, if_pos hp]
    by_cases hc : 0 ≤ val ((Utf8.decode s pos).1 : Int)
    · have ha : ((s[pos]'hp).toNat) < 128 := by
        rcases Nat.lt_or_ge ((s[pos]'hp).toNat) 128 with h | h
        · exact h
        · have := (decode_high s pos hp h).1
          have := val_ascii hc
          omega
      rw [decode_ascii s pos hp ha] at hc ⊢
      rw [if_pos hc]
      have hne : j ≠ pos := by
        rintro rfl
        simp only at hc
        omega
      have rec_ := fun acc n out => decP_bad s fuel (pos + 1) acc n out (by omega) ⟨j, by omega, h, hv⟩
      split
      · exact rec_ _ _ _
      · exact rec_ _ _ _
    · rw [if_neg hc]

theorem decP_step (s : ByteArray) (fuel pos : Nat) (acc n : Int) (out : List Int) (hp : pos < s.size) (v : Int) (hv : val ((s[pos]'hp).toNat : Int) = v) (h0 : 0 ≤ v) :
    decP s (fuel + 1) pos acc n out = if 2 ≤ n then decP s fuel (pos + 1) (acc * 64 % 4294967296 + v) (n - 2) (out ++ [(acc * 64 % 4294967296 + v) / 2 ^ (n - 2).toNat % 256]) else decP s fuel (pos + 1) (acc * 64 % 4294967296 + v) (n + 6) out := by
  have ha : ((s[pos]'hp).toNat) < 128 := by
    have := (val_ascii (c := ((s[pos]'hp).toNat : Int)) (by omega)).2
    omega
  have e : Utf8.decode s pos = ((s[pos]'hp).toNat, 1) := decode_ascii s pos hp ha
  simp only [decP, if_pos hp, e]
  rw [if_pos (by omega), hv]

/-- n = 0: a group begins. -/
theorem decP_group (s : ByteArray) : ∀ (t : List Int) (fuel pos : Nat) (acc : Int) (out : List Int), (nb s).drop pos = t → goodT t = true → 0 ≤ acc → acc < 4294967296 → t.length ≤ fuel →
    decP s fuel pos acc 0 out = if okV (t.map val) = true then (out ++ decV (t.map val), 0) else ([], 10)
  | [], fuel, pos, acc, out, ht, hg, a0, a1, hf => by
    have : s.size ≤ pos := by have := congrArg List.length ht; rw [List.length_drop, nb_length] at this; simp at this; omega
    rw [decP_end _ _ _ _ _ _ (by omega)]
    simp [decFin, okV, decV, Int.emod_one]
  | [c], fuel, pos, acc, out, ht, hg, a0, a1, hf => by
    have hl : s.size - pos = 1 := by have := congrArg List.length ht; rw [List.length_drop, nb_length] at this; simpa using this
    obtain ⟨fuel, rfl⟩ : ∃ m, fuel = m + 1 := ⟨fuel - 1, by simp at hf; omega⟩
    have hp : pos < s.size := by omega
    have e0 := nb_drop s pos hp
    rw [ht] at e0
    injection e0 with e0 _
    simp only [goodT, List.all_cons, Bool.and_eq_true, decide_eq_true_eq] at hg
    rw [decP_step s fuel pos acc 0 out hp (val c) (by rw [← e0]) hg.1, if_neg (by omega), decP_end _ _ _ _ _ _ (by omega)]
    simp [decFin, okV]
  | [c, d], fuel, pos, acc, out, ht, hg, a0, a1, hf => by
    have hl : s.size - pos = 2 := by have := congrArg List.length ht; rw [List.length_drop, nb_length] at this; simpa using this
    obtain ⟨fuel, rfl⟩ : ∃ m, fuel = m + 2 := ⟨fuel - 2, by simp at hf; omega⟩
    have hp : pos < s.size := by omega
    have hp1 : pos + 1 < s.size := by omega
    have e0 := nb_drop s pos hp
    rw [ht] at e0
    injection e0 with e0 e1
    rw [nb_drop s (pos + 1) hp1] at e1
    injection e1 with e1 _
    simp only [goodT, List.all_cons, Bool.and_eq_true, decide_eq_true_eq] at hg
    have vc := val_lt c
    have vd := val_lt d
    rw [decP_step s (fuel + 1) pos acc 0 out hp (val c) (by rw [← e0]) hg.1, if_neg (by omega)]
    rw [decP_step s fuel (pos + 1) _ _ out hp1 (val d) (by rw [← e1]) hg.2.1, if_pos (by omega), decP_end _ _ _ _ _ _ (by omega)]
    simp only [List.map_cons, List.map_nil, okV, decV, decFin, decide_eq_true_eq]
    rw [if_neg (by omega)]
    rw [show ((0 : Int) + 6 - 2).toNat = 4 by decide]
    have hx : ((acc * 64 % 4294967296 + val c) * 64 % 4294967296 + val d) % 2 ^ 4 = val d % 16 := by omega
    have hy : ((acc * 64 % 4294967296 + val c) * 64 % 4294967296 + val d) / 2 ^ 4 % 256 = val c * 4 + val d / 16 := by omega
    rw [hx, hy]
  | [c, d, e], fuel, pos, acc, out, ht, hg, a0, a1, hf => by
    have hl : s.size - pos = 3 := by have := congrArg List.length ht; rw [List.length_drop, nb_length] at this; simpa using this
    obtain ⟨fuel, rfl⟩ : ∃ m, fuel = m + 3 := ⟨fuel - 3, by simp at hf; omega⟩
    have hp : pos < s.size := by omega
    have hp1 : pos + 1 < s.size := by omega
    have hp2 : pos + 1 + 1 < s.size := by omega
    have e0 := nb_drop s pos hp
    rw [ht] at e0
    injection e0 with e0 e1
    rw [nb_drop s (pos + 1) hp1] at e1
    injection e1 with e1 e2
    rw [nb_drop s (pos + 1 + 1) hp2] at e2
    injection e2 with e2 _
    simp only [goodT, List.all_cons, Bool.and_eq_true, decide_eq_true_eq] at hg
    have vc := val_lt c
    have vd := val_lt d
    have ve := val_lt e
    rw [decP_step s (fuel + 1 + 1) pos acc 0 out hp (val c) (by rw [← e0]) hg.1, if_neg (by omega)]
    rw [decP_step s (fuel + 1) (pos + 1) _ _ out hp1 (val d) (by rw [← e1]) hg.2.1, if_pos (by omega)]
    rw [decP_step s fuel (pos + 1 + 1) _ _ _ hp2 (val e) (by rw [← e2]) hg.2.2.1, if_pos (by omega), decP_end _ _ _ _ _ _ (by omega)]
    simp only [List.map_cons, List.map_nil, okV, decV, decFin, decide_eq_true_eq]
    rw [if_neg (by omega)]
    rw [show ((0 : Int) + 6 - 2 - 2).toNat = 2 by decide, show ((0 : Int) + 6 - 2).toNat = 4 by decide]
    have hx : (((acc * 64 % 4294967296 + val c) * 64 % 4294967296 + val d) * 64 % 4294967296 + val e) % 2 ^ 2 = val e % 4 := by omega
    have hy : ((acc * 64 % 4294967296 + val c) * 64 % 4294967296 + val d) / 2 ^ 4 % 256 = val c * 4 + val d / 16 := by omega
    have hz : (((acc * 64 % 4294967296 + val c) * 64 % 4294967296 + val d) * 64 % 4294967296 + val e) / 2 ^ 2 % 256 = val d % 16 * 16 + val e / 4 := by omega
    rw [hx, hy, hz]
    simp
  | c :: d :: e :: f :: t, fuel, pos, acc, out, ht, hg, a0, a1, hf => by
    have hl : s.size - pos = t.length + 4 := by have := congrArg List.length ht; rw [List.length_drop, nb_length] at this; simpa using this
    obtain ⟨fuel, rfl⟩ : ∃ m, fuel = m + 4 := ⟨fuel - 4, by simp at hf; omega⟩
    have hp : pos < s.size := by omega
    have hp1 : pos + 1 < s.size := by omega
    have hp2 : pos + 1 + 1 < s.size := by omega
    have hp3 : pos + 1 + 1 + 1 < s.size := by omega
    have e0 := nb_drop s pos hp
    rw [ht] at e0
    injection e0 with e0 e1
    rw [nb_drop s (pos + 1) hp1] at e1
    injection e1 with e1 e2
    rw [nb_drop s (pos + 1 + 1) hp2] at e2
    injection e2 with e2 e3
    rw [nb_drop s (pos + 1 + 1 + 1) hp3] at e3
    injection e3 with e3 e4
    have hg' := hg
    simp only [goodT, List.all_cons, Bool.and_eq_true, decide_eq_true_eq] at hg
    have vc := val_lt c
    have vd := val_lt d
    have ve := val_lt e
    have vf := val_lt f
    rw [decP_step s (fuel + 1 + 1 + 1) pos acc 0 out hp (val c) (by rw [← e0]) hg.1, if_neg (by omega)]
    rw [decP_step s (fuel + 1 + 1) (pos + 1) _ _ out hp1 (val d) (by rw [← e1]) hg.2.1, if_pos (by omega)]
    rw [decP_step s (fuel + 1) (pos + 1 + 1) _ _ _ hp2 (val e) (by rw [← e2]) hg.2.2.1, if_pos (by omega)]
    rw [decP_step s fuel (pos + 1 + 1 + 1) _ _ _ hp3 (val f) (by rw [← e3]) hg.2.2.2.1, if_pos (by omega)]
    rw [show ((0 : Int) + 6 - 2 - 2 - 2).toNat = 0 by decide, show ((0 : Int) + 6 - 2 - 2).toNat = 2 by decide, show ((0 : Int) + 6 - 2).toNat = 4 by decide]
    have hy : ((acc * 64 % 4294967296 + val c) * 64 % 4294967296 + val d) / 2 ^ 4 % 256 = val c * 4 + val d / 16 := by omega
    have hz : (((acc * 64 % 4294967296 + val c) * 64 % 4294967296 + val d) * 64 % 4294967296 + val e) / 2 ^ 2 % 256 = val d % 16 * 16 + val e / 4 := by omega
    have hw : ((((acc * 64 % 4294967296 + val c) * 64 % 4294967296 + val d) * 64 % 4294967296 + val e) * 64 % 4294967296 + val f) / 2 ^ 0 % 256 = val e % 4 * 64 + val f := by omega
    rw [hy, hz, hw, show (0 : Int) + 6 - 2 - 2 - 2 = 0 by decide]
    rw [decP_group s t fuel (pos + 1 + 1 + 1 + 1) _ _ e4.symm hg.2.2.2.2 (by omega) (by omega) (by simp at hf; omega)]
    simp only [List.map_cons, okV, decV]
    split <;> simp

theorem decS_eq (s : ByteArray) (h : s.size ≤ 16384) : decS s = match decT (nb s) with | some b => (b, 0) | none => ([], 10) := by
  unfold decS
  rw [if_neg (by omega)]
  by_cases hg : goodT (nb s) = true
  · rw [decP_group s (nb s) s.size 0 0 [] rfl hg (by omega) (by omega) (by rw [nb_length]; omega)]
    unfold decT
    by_cases ho : okV ((nb s).map val) = true
    · rw [if_pos ho, if_pos ⟨hg, ho⟩]; simp
    · rw [if_neg ho, if_neg (fun h => ho h.2)]
  · have hb : ∃ j, 0 ≤ j ∧ ∃ h : j < s.size, val ((s[j]'h).toNat : Int) < 0 := by
      have : ∃ x ∈ nb s, ¬ 0 ≤ val x := by simpa [goodT] using hg
      obtain ⟨x, hx, hv⟩ := this
      obtain ⟨j, hj, rfl⟩ := List.mem_iff_getElem.1 hx
      have hjs : j < s.size := by rw [nb_length] at hj; exact hj
      refine ⟨j, Nat.zero_le _, hjs, ?_⟩
      have := nb_get s j hjs
      rw [List.getElem?_eq_getElem hj] at this
      rw [Option.some.inj this] at hv
      omega
    rw [decP_bad s s.size 0 0 0 [] (by omega) hb]
    unfold decT
    rw [if_neg (fun h => hg h.1)]

theorem decS_long (s : ByteArray) (h : 16384 < s.size) : decS s = ([], 3) := by unfold decS; rw [if_pos h]

end Go.Proofs.Ytabdkmlindgkmaa.B64
