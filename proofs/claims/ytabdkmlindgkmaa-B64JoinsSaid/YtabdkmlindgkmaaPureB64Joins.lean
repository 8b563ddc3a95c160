/- The plain law of B64Joins: behind a multiple of three bytes a text goes on with the text of the rest. -/
import Derived.Test.YtabdkmlindgkmaaPAllxJoins
import Derived.Test.YtabdkmlindgkmaaPure4
set_option linter.unusedVariables false
namespace Go.Proofs.Ytabdkmlindgkmaa.Pure
open Go.RowKit Go.Proofs.Ytabdkmlindgkmaa.PAll Go.Proofs.YtabdkmlindgkmaaW.PrintWords Go.Proofs.YtabdkmlindgkmaaW.PrintLast
open Go.Proofs.Ytabdkmlindgkmaa.B64

theorem nb_append (a b : ByteArray) : nb (a ++ b) = nb a ++ nb b := by
  unfold nb
  rw [ByteArray.data_append, Array.toList_append, List.map_append]

theorem encT_app (a b : List Int) (h : a.length % 3 = 0) : encT (a ++ b) = encT a ++ encT b := by
  unfold encT
  rw [encV_app a h b, List.map_append]

theorem joins_sizes (x y : Nat) (h3 : x % 3 = 0) (h : x + y ≤ 3000) : (8 * x + 5) / 6 + (8 * y + 5) / 6 ≤ 16384 ∧ (((8 * x + 5) / 6 : Nat) : Int) % 4 = 0 ∧ (8 * x + 5) / 6 + (8 * y + 5) / 6 ≤ 9223372036854775807 ∧ x + y ≤ 9223372036854775807 := ⟨by omega, by omega, by omega, by omega⟩
theorem joins_end (a b : List Int) (ha : Byt a) (hb : Byt b) (h3 : a.length % 3 = 0) (hl : a.length + b.length ≤ 3000) :
    decS (strOfNums (encT a) ++ strOfNums (encT b)) = (a ++ b, 0) ∧ (strOfNums (encT (a ++ b))).toList = (strOfNums (encT a) ++ strOfNums (encT b)).toList ∧
      (strOfNums (a ++ b)).toList = (strOfNums a ++ strOfNums b).toList ∧ (((strOfNums (encT a)).size : Int) % 4 == 0) = true ∧
      (strOfNums (encT a)).size + (strOfNums (encT b)).size ≤ 9223372036854775807 ∧ (strOfNums a).size + (strOfNums b).size ≤ 9223372036854775807 := by
  have hea := encT_byt a ha
  have heb := encT_byt b hb
  have hab : Byt (a ++ b) := ha.app hb
  have sa : (strOfNums (encT a)).size = (8 * a.length + 5) / 6 := by rw [strOfNums_size, encT_length]
  have sb : (strOfNums (encT b)).size = (8 * b.length + 5) / 6 := by rw [strOfNums_size, encT_length]
  have hn : nb (strOfNums (encT a) ++ strOfNums (encT b)) = encT (a ++ b) := by rw [nb_append, nb_str _ hea, nb_str _ heb, encT_app a b h3]
  obtain ⟨z1, z2, z3, z4⟩ := joins_sizes a.length b.length h3 hl
  refine ⟨?_, ?_, ?_, ?_, ?_, ?_⟩
  · rw [decS_eq _ (by rw [ByteArray.size_append, sa, sb]; exact z1), hn, decT_encT _ hab]
  · rw [bytes_inj, hn, nb_str _ (encT_byt _ hab)]
  · rw [bytes_inj, nb_append, nb_str _ hab, nb_str _ ha, nb_str _ hb]
  · rw [sa, beq_iff_eq]; exact z2
  · rw [sa, sb]; exact z3
  · rw [strOfNums_size, strOfNums_size]; exact z4

theorem joins_tail (k : Nat) (a b : List Int) (ha : Byt a) (hb : Byt b) (h3 : a.length % 3 = 0) (hl : a.length + b.length ≤ 3000) (hk : 4 * (a.length + b.length) + 1 ≤ k) :
    ((b64_Encode.f k a).bind fun t176 => ((b64_Encode.f k b).bind fun t177 => (if t176.size + t177.size ≤ 9223372036854775807 then ((b64_Decode.f k (t176 ++ t177)).bind fun bt178 => ((some (([] : List Int) : List Int)).bind fun y182 => (if y182.length + a.length < 140737488355328 then ((some (y182 ++ a : List Int)).bind fun y185 => (if y185.length + b.length < 140737488355328 then ((b64_Encode.f k (y185 ++ b)).bind fun t191 => (if t191.toList = (t176 ++ t177).toList then (if bt178.2 = 0 then (if (strOfNums a).size + (strOfNums b).size ≤ 9223372036854775807 then (if (strOfNums bt178.1).toList = ((strOfNums a) ++ (strOfNums b)).toList then (some (((t176.size : Int) % 4) == 0)) else (some false)) else (none)) else (some false)) else (some false))) else (none))) else (none)))) else (none)))) = some true := by
  have f1 := enc_f a (by omega) ha k (by omega)
  have f2 := enc_f b (by omega) hb k (by omega)
  have f3 := enc_f (a ++ b) (by rw [List.length_append]; omega) (ha.app hb) k (by rw [List.length_append]; omega)
  have z5 : a.length < 140737488355328 := by omega
  have z6 : a.length + b.length < 140737488355328 := by omega
  obtain ⟨e1, e2, e3, e4, e5, e6⟩ := joins_end a b ha hb h3 hl
  rw [f1]
  simp only [Option.bind_some]
  rw [f2]
  simp only [Option.bind_some]
  rw [if_pos e5]
  unfold b64_Decode.f
  rw [e1]
  simp only [Option.bind_some, List.nil_append, List.length_nil, Nat.zero_add]
  rw [if_pos z5, if_pos z6, f3]
  simp only [Option.bind_some]
  rw [if_pos e2, if_pos trivial, if_pos e6, if_pos e3, e4]

theorem joins_wraps (x y : Nat) (hx : x * 1 ≤ 140737488351232) (hy : y * 1 ≤ 140737488351232) : wrap64 ((x : Int) + (y : Int)) = (x : Int) + (y : Int) ∧ wrap64 (wrap64 ((x : Int) / 3) * 3) = ((x / 3 * 3 : Nat) : Int) := by
  refine ⟨by unfold wrap64; omega, ?_⟩
  have h1 : wrap64 ((x : Int) / 3) = (x : Int) / 3 := by unfold wrap64; omega
  have h2 : ((x / 3 * 3 : Nat) : Int) = (x : Int) / 3 * 3 := by push_cast; rfl
  rw [h1, h2]
  unfold wrap64; omega
theorem joins_cuts (x y : Nat) (h : ¬ (x : Int) + (y : Int) > 3000) : (0 : Int) ≤ ((x / 3 * 3 : Nat) : Int) ∧ ((x / 3 * 3 : Nat) : Int) ≤ (x : Int) ∧ x / 3 * 3 ≤ x ∧ x / 3 * 3 % 3 = 0 ∧ x / 3 * 3 + y ≤ 3000 ∧ 4 * (x / 3 * 3 + y) + 1 ≤ 4 * (x + y) + 151 := ⟨by omega, by omega, by omega, by omega, by omega, by omega⟩

theorem B64Joins : latchkeylaw04_B64Joins.Pure := by
  intro l m h1 h2 hw g1 g2 gw
  have hb := wf_byt hw
  have gb := wf_byt gw
  have haw := awake (4 * (l.length + m.length) + 151) (by omega)
  obtain ⟨hs, hn⟩ := joins_wraps l.length m.length h2 g2
  clear h1 h2 g1 g2 hw gw
  refine ⟨4 * (l.length + m.length) + 151, ?_⟩
  unfold latchkeylaw04_B64Joins.f
  rw [haw]
  rw [Option.bind_some, if_pos rfl, hs, hn]
  clear hs hn
  by_cases h : (l.length : Int) + (m.length : Int) > 3000
  · rw [if_pos h]
  · obtain ⟨c1, c2, c3, c4, c5, c6⟩ := joins_cuts l.length m.length h
    rw [if_neg h, if_pos c1, if_pos c2, Int.toNat_natCast]
    have hl : (l.take (l.length / 3 * 3)).length = l.length / 3 * 3 := by rw [List.length_take]; exact Nat.min_eq_left c3
    exact joins_tail _ (l.take (l.length / 3 * 3)) m (hb.take _) gb (by rw [hl]; exact c4) (by rw [hl]; exact c5) (by rw [hl]; exact c6)

end Go.Proofs.Ytabdkmlindgkmaa.Pure
