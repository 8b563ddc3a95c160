/- The reference's constants are the program's. -/
import Derived.Test.YtocnkfepiknglaaShaR0
import Derived.Test.YtocnkfepiknglaaShaR1
import Derived.Test.YtocnkfepiknglaaShaR2
import Derived.Test.YtocnkfepiknglaaShaR3
import Derived.Test.YtocnkfepiknglaaShaR4
import Derived.Test.YtocnkfepiknglaaShaC
namespace Go.Proofs.Ytocnkfepiknglaa.PAll
open Go.RowKit Go.Proofs.YtocnkfepiknglaaW.PrintWords
set_option linter.unusedVariables false
def primesL : List Int := [2, 3, 5, 7, 11, 13, 17, 19, 23, 29, 31, 37, 41, 43, 47, 53, 59, 61, 67, 71, 73, 79, 83, 89, 97, 101, 103, 107, 109, 113, 127, 131, 137, 139, 149, 151, 157, 163, 167, 173, 179, 181, 191, 193, 197, 199, 211, 223, 227, 229, 233, 239, 241, 251, 257, 263, 269, 271, 277, 281, 283, 293, 307, 311]
theorem primes_ok : latchkeyref03_primes.f 20000 64 = some primesL := by decide +kernel
theorem mapK : primesL.map (fun p => latchkeyref03_root.f 400 p 3) = rootsK.map some := by
  rw [show primesL = [2, 3, 5, 7, 11, 13, 17, 19] ++ ([23, 29, 31, 37, 41, 43, 47, 53] ++ ([59, 61, 67, 71, 73, 79, 83, 89] ++ ([97, 101, 103, 107, 109, 113, 127, 131] ++ ([137, 139, 149, 151, 157, 163, 167, 173] ++ ([179, 181, 191, 193, 197, 199, 211, 223] ++ ([227, 229, 233, 239, 241, 251, 257, 263] ++ [269, 271, 277, 281, 283, 293, 307, 311])))))) from rfl]
  simp only [List.map_append]
  rw [root_K0, root_K1, root_K2, root_K3, root_K4, root_K5, root_K6, root_K7]
  rfl
theorem mapH : (primesL.take 8).map (fun p => latchkeyref03_root.f 400 p 2) = rootsH.map some := root_H0
theorem root_ge (p t r : Int) (h : latchkeyref03_root.f 400 p t = some r) (k : Nat) (hk : 400 ≤ k) : latchkeyref03_root.f k p t = some r := by
  obtain ⟨j, rfl⟩ : ∃ j, k = 400 + j := ⟨k - 400, by omega⟩
  clear hk
  induction j with
  | zero => exact h
  | succ j ih => exact latchkeyref03_root.mono p t (400 + j) _ ih
theorem rootK (i : Nat) (hi : i < 64) (k : Nat) (hk : 400 ≤ k) : latchkeyref03_root.f k (rd primesL i) 3 = some (rd rootsK i) := by
  refine root_ge _ _ _ ?_ k hk
  have h := congrArg (fun l => l[i]?) mapK
  simp only [List.getElem?_map] at h
  have h1 : primesL[i]? = some (rd primesL i) := by
    unfold rd
    rw [Int.toNat_natCast, List.getD_eq_getElem?_getD, List.getElem?_eq_getElem (show i < primesL.length from hi)]
    rfl
  have h2 : rootsK[i]? = some (rd rootsK i) := by
    unfold rd
    rw [Int.toNat_natCast, List.getD_eq_getElem?_getD, List.getElem?_eq_getElem (show i < rootsK.length from hi)]
    rfl
  rw [h1, h2] at h
  exact Option.some.inj h
theorem rootH (i : Nat) (hi : i < 8) (k : Nat) (hk : 400 ≤ k) : latchkeyref03_root.f k (rd primesL i) 2 = some (rd rootsH i) := by
  refine root_ge _ _ _ ?_ k hk
  have h := congrArg (fun l => l[i]?) mapH
  simp only [List.getElem?_map] at h
  have h1 : (primesL.take 8)[i]? = some (rd primesL i) := by
    rw [List.getElem?_take_of_lt hi]
    unfold rd
    rw [Int.toNat_natCast, List.getD_eq_getElem?_getD, List.getElem?_eq_getElem (show i < primesL.length from Nat.lt_trans hi (by decide))]
    rfl
  have h2 : rootsH[i]? = some (rd rootsH i) := by
    unfold rd
    rw [Int.toNat_natCast, List.getD_eq_getElem?_getD, List.getElem?_eq_getElem (show i < rootsH.length from hi)]
    rfl
  rw [h1, h2] at h
  exact Option.some.inj h
theorem take_next (l : List Int) (i : Nat) (h : i < l.length) : l.take (i + 1) = l.take i ++ [rd l i] := by
  rw [List.take_add_one, List.getElem?_eq_getElem h]
  unfold rd
  rw [Int.toNat_natCast, List.getD_eq_getElem?_getD, List.getElem?_eq_getElem h]
  rfl
theorem words_l1 (hl : List Int) : ∀ (d i k : Nat), 64 - i = d → i ≤ 64 → 400 + d < k → latchkeyref03_Words.l1 k primesL hl (rootsK.take i) i = some (hl, rootsK) := by
  intro d
  induction d with
  | zero =>
    intro i k hd hi hk
    obtain ⟨k, rfl⟩ : ∃ j, k = j + 1 := ⟨k - 1, by omega⟩
    have : i = 64 := by omega
    subst this
    simp only [latchkeyref03_Words.l1]
    rw [if_neg (by decide)]
    rfl
  | succ d ih =>
    intro i k hd hi hk
    obtain ⟨k, rfl⟩ : ∃ j, k = j + 1 := ⟨k - 1, by omega⟩
    simp only [latchkeyref03_Words.l1]
    rw [if_pos (by omega), if_pos (by omega), if_pos (by show (i : Int) < 64; omega), rootK i (by omega) k (by omega), Option.bind_some, if_pos (by rw [List.length_take]; omega), ← take_next rootsK i (by show i < 64; omega)]
    have hw : wrap64 ((i : Int) + 1) = ((i + 1 : Nat) : Int) := by unfold wrap64; omega
    rw [hw]
    exact ih (i + 1) k (by omega) (by omega) (by omega)
theorem words_l0 : ∀ (d i k : Nat), 8 - i = d → i ≤ 8 → 500 + d < k → latchkeyref03_Words.l0 k primesL (rootsH.take i) i = some (rootsH, rootsK) := by
  intro d
  induction d with
  | zero =>
    intro i k hd hi hk
    obtain ⟨k, rfl⟩ : ∃ j, k = j + 1 := ⟨k - 1, by omega⟩
    have : i = 8 := by omega
    subst this
    simp only [latchkeyref03_Words.l0]
    rw [if_neg (by decide)]
    exact words_l1 rootsH 64 0 k (by omega) (by omega) (by omega)
  | succ d ih =>
    intro i k hd hi hk
    obtain ⟨k, rfl⟩ : ∃ j, k = j + 1 := ⟨k - 1, by omega⟩
    simp only [latchkeyref03_Words.l0]
    rw [if_pos (by omega), if_pos (by omega), if_pos (by show (i : Int) < 64; omega), rootH i (by omega) k (by omega), Option.bind_some, if_pos (by rw [List.length_take]; omega), ← take_next rootsH i (by show i < 8; omega)]
    have hw : wrap64 ((i : Int) + 1) = ((i + 1 : Nat) : Int) := by unfold wrap64; omega
    rw [hw]
    exact ih (i + 1) k (by omega) (by omega) (by omega)
theorem words_ok : latchkeyref03_Words.f 20000 = some (rootsH, rootsK) := by
  unfold latchkeyref03_Words.f
  rw [primes_ok, Option.bind_some]
  exact words_l0 8 0 20000 (by omega) (by omega) (by omega)

end Go.Proofs.Ytocnkfepiknglaa.PAll
