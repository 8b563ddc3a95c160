/- latchkeyref03.Decode comes to decT; the facts of Awake (plain). -/
import Derived.Test.YtabdkmlindgkmaaPure2
set_option linter.unusedVariables false
set_option linter.unusedSimpArgs false
namespace Go.Proofs.Ytabdkmlindgkmaa.B64
open Go.RowKit Go.Proofs.YtabdkmlindgkmaaW.PrintWords Go.Proofs.YtabdkmlindgkmaaW.PrintLast Go.Proofs.YtabdkmlindgkmaaW.PrintMore
open Go.Proofs.Ytabdkmlindgkmaa.PAll

/-! ### the search for a sign -/
def fnd (c : Int) : Nat → Int → Int
  | 0, x => x
  | r + 1, x => fnd c r (if bt signs ((64 - (r + 1) : Nat) : Int) = c then ((64 - (r + 1) : Nat) : Int) else x)
theorem fnd_all : ∀ c : Fin 256, fnd ((c.val : Nat) : Int) 64 (-1) = val ((c.val : Nat) : Int) := by decide +kernel

/-- Behind the search. -/
def after (k : Nat) (s : ByteArray) (out : List Int) (i v : Int) : Option (List Int × Bool) := if v < 0 then some (([] : List Int), false) else latchkeyref03_Decode.l2 k s signs out i v 0
theorem l1_run (k : Nat) (s : ByteArray) (out : List Int) (i : Nat) (hi : i < s.size) (c : Int) (hc : bt s (i : Int) = c) : ∀ (r : Nat) (x : Int), r ≤ 64 →
    latchkeyref03_Decode.l1 (k + r + 1) s signs out (i : Int) x ((64 - r : Nat) : Int) = after k s out (i : Int) (fnd c r x)
  | 0, x, hr => by
    simp only [latchkeyref03_Decode.l1]
    rw [if_neg (by omega)]
    rfl
  | r + 1, x, hr => by
    have ih := l1_run k s out i hi c hc r
    have hsz : (signs.size : Int) = 64 := rfl
    have hf : fnd c (r + 1) x = fnd c r (if bt signs ((64 - (r + 1) : Nat) : Int) = c then ((64 - (r + 1) : Nat) : Int) else x) := rfl
    obtain ⟨m, hm⟩ : ∃ m, m = k + r + 1 := ⟨_, rfl⟩
    rw [← hm] at ih
    rw [hf, show k + (r + 1) + 1 = m + 1 by omega]
    simp only [latchkeyref03_Decode.l1]
    have hw : wrap64 (((64 - (r + 1) : Nat) : Int) + 1) = ((64 - r : Nat) : Int) := by unfold wrap64; omega
    rw [if_pos (by omega), if_pos (by omega), if_pos (by omega), if_pos (by omega), if_pos (by omega), hc, hw]
    by_cases h : bt signs ((64 - (r + 1) : Nat) : Int) = c
    · rw [if_pos h, if_pos h]
      exact ih _ (by omega)
    · rw [if_neg h, if_neg h]
      exact ih _ (by omega)

/-! ### six bits -/
def stepBit (out : List Int) (p : Nat) (b : Int) : List Int :=
  if b = 1 then (if p / 8 < out.length then out.set (p / 8) ((out.getD (p / 8) 0 + 2 ^ (7 - p % 8)) % 256) else out) else out

theorem l2_step (k : Nat) (s : ByteArray) (hs : s.size ≤ 140737488351232) (out : List Int) (i : Nat) (hi : i < s.size) (v : Int) (v0 : 0 ≤ v) (t : Nat) (ht : t < 6) :
    latchkeyref03_Decode.l2 (k + 1) s signs out (i : Int) v (t : Int) = latchkeyref03_Decode.l2 k s signs (stepBit out (6 * i + t) (v / 2 ^ (5 - t) % 2)) (i : Int) v ((t + 1 : Nat) : Int) := by
  simp only [latchkeyref03_Decode.l2]
  have h5 : wrap64 (5 - (t : Int)) = ((5 - t : Nat) : Int) := by unfold wrap64; omega
  have h6 : wrap64 (6 * (i : Int)) = 6 * (i : Int) := by unfold wrap64; omega
  have h7 : wrap64 (6 * (i : Int) + (t : Int)) = ((6 * i + t : Nat) : Int) := by unfold wrap64; omega
  have hn : wrap64 ((t : Int) + 1) = ((t + 1 : Nat) : Int) := by unfold wrap64; omega
  rw [if_pos (by omega), h5, if_pos (by omega), h6, h7, hn]
  have hd : wrap64 (Int.tdiv ((6 * i + t : Nat) : Int) 8) = (((6 * i + t) / 8 : Nat) : Int) := by
    rw [Int.tdiv_eq_ediv_of_nonneg (by omega)]; unfold wrap64; omega
  have hm : wrap64 (7 - Int.tmod ((6 * i + t : Nat) : Int) 8) = ((7 - (6 * i + t) % 8 : Nat) : Int) := by
    rw [Int.tmod_eq_emod_of_nonneg (by omega)]; unfold wrap64; omega
  have hsh : shr .i64 v ((5 - t : Nat) : Int) = v / 2 ^ (5 - t) := by
    unfold shr
    rw [Int.toNat_natCast, Nat.min_eq_left (by simp only [IntKind.bits]; omega)]
  have hsl : shl .u8 1 ((7 - (6 * i + t) % 8 : Nat) : Int) = 2 ^ (7 - (6 * i + t) % 8) := by
    unfold shl
    rw [Int.toNat_natCast, Nat.min_eq_left (by simp only [IntKind.bits]; omega), IntKind.wrap_u8, Int.one_mul]
    have hj7 : 7 - (6 * i + t) % 8 ≤ 7 := Nat.sub_le _ _
    generalize 7 - (6 * i + t) % 8 = j at hj7 ⊢
    have h3 := Nat.pow_le_pow_right (n := 2) (by decide) hj7
    have h2 : (0 : Int) < 2 ^ j := Int.pow_pos (by decide)
    have h4 : (2 : Int) ^ j ≤ 128 := by exact_mod_cast h3
    omega
  rw [hd, hm, hsh, hsl, Int.tmod_eq_emod_of_nonneg (Int.ediv_nonneg v0 (Int.le_of_lt (Int.pow_pos (by decide))))]
  unfold stepBit
  by_cases h : v / 2 ^ (5 - t) % 2 = 1
  · rw [if_pos h, if_pos h]
    by_cases h2 : (6 * i + t) / 8 < out.length
    · rw [if_pos (by omega), if_pos (by omega), if_pos (by omega), if_pos h2]
      unfold rd
      rw [Int.toNat_natCast]
    · rw [if_neg (by omega), if_neg h2]
  · rw [if_neg h, if_neg h]

/-! ### the bits of numbers of six bits, as bytes -/
def bit6 (vs : List Int) (q : Nat) : Int := vs.getD (q / 6) 0 / 2 ^ (5 - q % 6) % 2
theorem bit6_01 (vs : List Int) (q : Nat) : bit6 vs q = 0 ∨ bit6 vs q = 1 := by unfold bit6; omega
def one (vs : List Int) (p q : Nat) (w : Int) : Int := if q < p then bit6 vs q * w else 0
def part (vs : List Int) (j p : Nat) : Int :=
  one vs p (8 * j) 128 + one vs p (8 * j + 1) 64 + one vs p (8 * j + 2) 32 + one vs p (8 * j + 3) 16 + one vs p (8 * j + 4) 8 + one vs p (8 * j + 5) 4 + one vs p (8 * j + 6) 2 + one vs p (8 * j + 7) 1
theorem one_range (vs : List Int) (p q : Nat) (w : Int) (hw : 0 ≤ w) : 0 ≤ one vs p q w ∧ one vs p q w ≤ w := by
  unfold one
  split
  · rcases bit6_01 vs q with h | h <;> rw [h] <;> omega
  · omega
theorem part_range (vs : List Int) (j p : Nat) : 0 ≤ part vs j p ∧ part vs j p < 256 := by
  unfold part
  have h0 := one_range vs p (8 * j) 128 (by decide)
  have h1 := one_range vs p (8 * j + 1) 64 (by decide)
  have h2 := one_range vs p (8 * j + 2) 32 (by decide)
  have h3 := one_range vs p (8 * j + 3) 16 (by decide)
  have h4 := one_range vs p (8 * j + 4) 8 (by decide)
  have h5 := one_range vs p (8 * j + 5) 4 (by decide)
  have h6 := one_range vs p (8 * j + 6) 2 (by decide)
  have h7 := one_range vs p (8 * j + 7) 1 (by decide)
  omega
theorem one_other (vs : List Int) (p q : Nat) (w : Int) (h : q ≠ p) : one vs (p + 1) q w = one vs p q w := by
  unfold one
  by_cases hq : q < p
  · rw [if_pos (by omega), if_pos hq]
  · rw [if_neg (by omega), if_neg hq]
theorem one_here (vs : List Int) (p q : Nat) (w : Int) (h : q = p) : one vs (p + 1) q w = one vs p q w + bit6 vs p * w := by
  subst h
  unfold one
  rw [if_pos (by omega), if_neg (by omega)]
  omega
theorem part_other (vs : List Int) (j p : Nat) (h : p / 8 ≠ j) : part vs j (p + 1) = part vs j p := by
  unfold part
  rw [one_other vs p _ _ (by omega), one_other vs p _ _ (by omega), one_other vs p _ _ (by omega), one_other vs p _ _ (by omega), one_other vs p _ _ (by omega), one_other vs p _ _ (by omega), one_other vs p _ _ (by omega), one_other vs p _ _ (by omega)]
theorem part_here (vs : List Int) (p : Nat) : part vs (p / 8) (p + 1) = part vs (p / 8) p + bit6 vs p * 2 ^ (7 - p % 8) := by
  obtain ⟨j, q, hq, rfl⟩ : ∃ j q, q < 8 ∧ p = 8 * j + q := ⟨p / 8, p % 8, by omega, by omega⟩
  have hj : (8 * j + q) / 8 = j := by omega
  have hm : (8 * j + q) % 8 = q := by omega
  rw [hj, hm]
  unfold part
  have : q = 0 ∨ q = 1 ∨ q = 2 ∨ q = 3 ∨ q = 4 ∨ q = 5 ∨ q = 6 ∨ q = 7 := by omega
  rcases this with rfl | rfl | rfl | rfl | rfl | rfl | rfl | rfl
  · simp only [Nat.add_zero]
    rw [one_here vs _ (8 * j) _ (by omega), one_other vs _ (8 * j + 1) _ (by omega), one_other vs _ (8 * j + 2) _ (by omega), one_other vs _ (8 * j + 3) _ (by omega), one_other vs _ (8 * j + 4) _ (by omega), one_other vs _ (8 * j + 5) _ (by omega), one_other vs _ (8 * j + 6) _ (by omega), one_other vs _ (8 * j + 7) _ (by omega)]
    simp only [Nat.sub_zero, Nat.reduceSub, Int.reducePow]; omega
  · rw [one_other vs _ (8 * j) _ (by omega), one_here vs _ (8 * j + 1) _ (by omega), one_other vs _ (8 * j + 2) _ (by omega), one_other vs _ (8 * j + 3) _ (by omega), one_other vs _ (8 * j + 4) _ (by omega), one_other vs _ (8 * j + 5) _ (by omega), one_other vs _ (8 * j + 6) _ (by omega), one_other vs _ (8 * j + 7) _ (by omega)]
    simp only [Nat.sub_zero, Nat.reduceSub, Int.reducePow]; omega
  · rw [one_other vs _ (8 * j) _ (by omega), one_other vs _ (8 * j + 1) _ (by omega), one_here vs _ (8 * j + 2) _ (by omega), one_other vs _ (8 * j + 3) _ (by omega), one_other vs _ (8 * j + 4) _ (by omega), one_other vs _ (8 * j + 5) _ (by omega), one_other vs _ (8 * j + 6) _ (by omega), one_other vs _ (8 * j + 7) _ (by omega)]
    simp only [Nat.sub_zero, Nat.reduceSub, Int.reducePow]; omega
  · rw [one_other vs _ (8 * j) _ (by omega), one_other vs _ (8 * j + 1) _ (by omega), one_other vs _ (8 * j + 2) _ (by omega), one_here vs _ (8 * j + 3) _ (by omega), one_other vs _ (8 * j + 4) _ (by omega), one_other vs _ (8 * j + 5) _ (by omega), one_other vs _ (8 * j + 6) _ (by omega), one_other vs _ (8 * j + 7) _ (by omega)]
    simp only [Nat.sub_zero, Nat.reduceSub, Int.reducePow]; omega
  · rw [one_other vs _ (8 * j) _ (by omega), one_other vs _ (8 * j + 1) _ (by omega), one_other vs _ (8 * j + 2) _ (by omega), one_other vs _ (8 * j + 3) _ (by omega), one_here vs _ (8 * j + 4) _ (by omega), one_other vs _ (8 * j + 5) _ (by omega), one_other vs _ (8 * j + 6) _ (by omega), one_other vs _ (8 * j + 7) _ (by omega)]
    simp only [Nat.sub_zero, Nat.reduceSub, Int.reducePow]; omega
  · rw [one_other vs _ (8 * j) _ (by omega), one_other vs _ (8 * j + 1) _ (by omega), one_other vs _ (8 * j + 2) _ (by omega), one_other vs _ (8 * j + 3) _ (by omega), one_other vs _ (8 * j + 4) _ (by omega), one_here vs _ (8 * j + 5) _ (by omega), one_other vs _ (8 * j + 6) _ (by omega), one_other vs _ (8 * j + 7) _ (by omega)]
    simp only [Nat.sub_zero, Nat.reduceSub, Int.reducePow]; omega
  · rw [one_other vs _ (8 * j) _ (by omega), one_other vs _ (8 * j + 1) _ (by omega), one_other vs _ (8 * j + 2) _ (by omega), one_other vs _ (8 * j + 3) _ (by omega), one_other vs _ (8 * j + 4) _ (by omega), one_other vs _ (8 * j + 5) _ (by omega), one_here vs _ (8 * j + 6) _ (by omega), one_other vs _ (8 * j + 7) _ (by omega)]
    simp only [Nat.sub_zero, Nat.reduceSub, Int.reducePow]; omega
  · rw [one_other vs _ (8 * j) _ (by omega), one_other vs _ (8 * j + 1) _ (by omega), one_other vs _ (8 * j + 2) _ (by omega), one_other vs _ (8 * j + 3) _ (by omega), one_other vs _ (8 * j + 4) _ (by omega), one_other vs _ (8 * j + 5) _ (by omega), one_other vs _ (8 * j + 6) _ (by omega), one_here vs _ (8 * j + 7) _ (by omega)]
    simp only [Nat.sub_self, Nat.reduceSub, Int.reducePow]; omega

def outAt (vs : List Int) (len p : Nat) : List Int := (List.range len).map fun j => part vs j p
theorem outAt_length (vs : List Int) (len p : Nat) : (outAt vs len p).length = len := by simp [outAt]
theorem outAt_zero (vs : List Int) (len : Nat) : outAt vs len 0 = List.replicate len 0 := by
  apply List.ext_getElem
  · simp [outAt]
  · intro i h1 h2
    simp [outAt, part, one]
theorem outAt_get (vs : List Int) (len p j : Nat) (h : j < len) : (outAt vs len p).getD j 0 = part vs j p := by
  rw [List.getD_eq_getElem?_getD, List.getElem?_eq_getElem (by rw [outAt_length]; exact h)]
  simp [outAt]
theorem outAt_step (vs : List Int) (len p : Nat) : stepBit (outAt vs len p) p (bit6 vs p) = outAt vs len (p + 1) := by
  unfold stepBit
  rw [outAt_length]
  apply List.ext_getElem
  · split
    · split <;> simp [outAt]
    · simp [outAt]
  · intro i h1 h2
    have hi : i < len := by rw [outAt_length] at h2; exact h2
    have e2 : (outAt vs len (p + 1))[i] = part vs i (p + 1) := by simp [outAt]
    have e1 : ∀ h, (outAt vs len p)[i]'h = part vs i p := by intro h; simp [outAt]
    rw [e2]
    by_cases hb : bit6 vs p = 1
    · simp only [if_pos hb]
      by_cases hl : p / 8 < len
      · simp only [if_pos hl]
        rw [List.getElem_set]
        by_cases hp : p / 8 = i
        · rw [if_pos hp, outAt_get vs len p _ hl]
          subst hp
          have h3 := part_here vs p
          have h4 := part_range vs (p / 8) (p + 1)
          rw [hb, Int.one_mul] at h3
          rw [← h3]
          omega
        · rw [if_neg hp, e1, part_other vs i p hp]
      · simp only [if_neg hl]
        rw [e1, part_other vs i p (by omega)]
    · simp only [if_neg hb]
      rw [e1]
      have h0 : bit6 vs p = 0 := by rcases bit6_01 vs p with h | h; exact h; exact absurd h hb
      by_cases hp : p / 8 = i
      · subst hp
        rw [part_here vs p, h0]; omega
      · rw [part_other vs i p hp]

/-- A whole byte. -/
def byteAt (vs : List Int) (j : Nat) : Int :=
  bit6 vs (8 * j) * 128 + bit6 vs (8 * j + 1) * 64 + bit6 vs (8 * j + 2) * 32 + bit6 vs (8 * j + 3) * 16 + bit6 vs (8 * j + 4) * 8 + bit6 vs (8 * j + 5) * 4 + bit6 vs (8 * j + 6) * 2 + bit6 vs (8 * j + 7) * 1
theorem part_full (vs : List Int) (j p : Nat) (h : 8 * j + 7 < p) : part vs j p = byteAt vs j := by
  unfold part byteAt one
  rw [if_pos (by omega), if_pos (by omega), if_pos (by omega), if_pos (by omega), if_pos (by omega), if_pos (by omega), if_pos (by omega), if_pos (by omega)]
theorem bit6_shift (x y z t : Int) (r : List Int) (q : Nat) : bit6 (x :: y :: z :: t :: r) (q + 24) = bit6 r q := by
  unfold bit6
  rw [show (q + 24) / 6 = q / 6 + 4 by omega, show (q + 24) % 6 = q % 6 by omega]
  rfl
theorem byteAt_shift (x y z t : Int) (r : List Int) (j : Nat) : byteAt (x :: y :: z :: t :: r) (j + 3) = byteAt r j := by
  unfold byteAt
  rw [show 8 * (j + 3) = 8 * j + 24 by omega, show 8 * j + 24 + 1 = 8 * j + 1 + 24 by omega, show 8 * j + 24 + 2 = 8 * j + 2 + 24 by omega, show 8 * j + 24 + 3 = 8 * j + 3 + 24 by omega, show 8 * j + 24 + 4 = 8 * j + 4 + 24 by omega, show 8 * j + 24 + 5 = 8 * j + 5 + 24 by omega, show 8 * j + 24 + 6 = 8 * j + 6 + 24 by omega, show 8 * j + 24 + 7 = 8 * j + 7 + 24 by omega]
  simp only [bit6_shift]
theorem byte0 {x y : Int} (r : List Int) (hx : 0 ≤ x ∧ x < 64) (hy : 0 ≤ y ∧ y < 64) : byteAt (x :: y :: r) 0 = x * 4 + y / 16 := by
  simp [byteAt, bit6]; omega
theorem byte1 {x y z : Int} (r : List Int) (hy : 0 ≤ y ∧ y < 64) (hz : 0 ≤ z ∧ z < 64) : byteAt (x :: y :: z :: r) 1 = y % 16 * 16 + z / 4 := by
  simp [byteAt, bit6]; omega
theorem byte2 {x y z t : Int} (r : List Int) (hz : 0 ≤ z ∧ z < 64) (ht : 0 ≤ t ∧ t < 64) : byteAt (x :: y :: z :: t :: r) 2 = z % 4 * 64 + t := by
  simp [byteAt, bit6]; omega
theorem decV_get : ∀ (vs : List Int), Six vs → ∀ (j : Nat) (h : j < (decV vs).length), (decV vs)[j] = byteAt vs j
  | [], _, j, h => by simp [decV] at h
  | [_], _, j, h => by simp [decV] at h
  | [x, y], h6, j, h => by
    obtain ⟨hx, h6⟩ := h6.cons
    obtain ⟨hy, h6⟩ := h6.cons
    obtain rfl : j = 0 := by simp [decV] at h; exact h
    rw [byte0 [] hx hy]
    simp [decV]
  | [x, y, z], h6, j, h => by
    obtain ⟨hx, h6⟩ := h6.cons
    obtain ⟨hy, h6⟩ := h6.cons
    obtain ⟨hz, h6⟩ := h6.cons
    simp only [decV, List.length_cons, List.length_nil] at h
    obtain rfl | rfl : j = 0 ∨ j = 1 := by omega
    · rw [byte0 [z] hx hy]
      simp [decV]
    · rw [byte1 [] hy hz]
      simp [decV]
  | x :: y :: z :: t :: r, h6, j, h => by
    obtain ⟨hx, h6⟩ := h6.cons
    obtain ⟨hy, h6⟩ := h6.cons
    obtain ⟨hz, h6⟩ := h6.cons
    obtain ⟨ht, h6⟩ := h6.cons
    match j, h with
    | 0, h => rw [byte0 (z :: t :: r) hx hy]; simp [decV]
    | 1, h => rw [byte1 (t :: r) hy hz]; simp [decV]
    | 2, h => rw [byte2 r hz ht]; simp [decV]
    | j + 3, h =>
      have h' : j < (decV r).length := by simpa [decV] using h
      rw [byteAt_shift, ← decV_get r h6 j h']
      simp [decV]
theorem outAt_end (vs : List Int) (h6 : Six vs) : outAt vs (6 * vs.length / 8) (6 * vs.length) = decV vs := by
  apply List.ext_getElem
  · rw [outAt_length, decV_length]
  · intro j h1 h2
    rw [outAt_length] at h1
    rw [decV_get vs h6 j h2, ← part_full vs j (6 * vs.length) (by omega)]
    simp [outAt]

/-! ### the whole of it -/
def sixB (out : List Int) (i : Nat) (v : Int) : List Int :=
  stepBit (stepBit (stepBit (stepBit (stepBit (stepBit out (6 * i + 0) (v / 2 ^ (5 - 0) % 2)) (6 * i + 1) (v / 2 ^ (5 - 1) % 2)) (6 * i + 2) (v / 2 ^ (5 - 2) % 2)) (6 * i + 3) (v / 2 ^ (5 - 3) % 2)) (6 * i + 4) (v / 2 ^ (5 - 4) % 2)) (6 * i + 5) (v / 2 ^ (5 - 5) % 2)
theorem l2_six (k : Nat) (s : ByteArray) (hs : s.size ≤ 140737488351232) (out : List Int) (i : Nat) (hi : i < s.size) (v : Int) (v0 : 0 ≤ v) :
    latchkeyref03_Decode.l2 (k + 1 + 1 + 1 + 1 + 1 + 1 + 1) s signs out (i : Int) v 0 = latchkeyref03_Decode.l0 k s signs (sixB out i v) ((i + 1 : Nat) : Int) := by
  have st := fun k out t ht => l2_step k s hs out i hi v v0 t ht
  have t0 := st (k + 1 + 1 + 1 + 1 + 1 + 1) out 0 (by decide)
  have t1 := fun o => st (k + 1 + 1 + 1 + 1 + 1) o 1 (by decide)
  have t2 := fun o => st (k + 1 + 1 + 1 + 1) o 2 (by decide)
  have t3 := fun o => st (k + 1 + 1 + 1) o 3 (by decide)
  have t4 := fun o => st (k + 1 + 1) o 4 (by decide)
  have t5 := fun o => st (k + 1) o 5 (by decide)
  simp only [Nat.zero_add, Nat.reduceAdd, Int.natCast_zero, Int.cast_ofNat_Int] at t0 t1 t2 t3 t4 t5
  rw [t0, t1, t2, t3, t4, t5]
  simp only [latchkeyref03_Decode.l2]
  rw [if_neg (by omega), show wrap64 ((i : Int) + 1) = ((i + 1 : Nat) : Int) by unfold wrap64; omega]
  rfl

theorem l0_sign (k : Nat) (s : ByteArray) (hs : s.size ≤ 140737488351232) (out : List Int) (i : Nat) (hi : i < s.size) (v : Int) (hv : val ((s[i]'hi).toNat : Int) = v) :
    latchkeyref03_Decode.l0 (k + 73) s signs out (i : Int) = if v < 0 then some (([] : List Int), false) else latchkeyref03_Decode.l0 k s signs (sixB out i v) ((i + 1 : Nat) : Int) := by
  have hb := bt_nb s i hi
  have h1 := l1_run (k + 1 + 1 + 1 + 1 + 1 + 1 + 1) s out i hi _ hb 64 (-1) (by decide)
  have hf := fnd_all ⟨(s[i]'hi).toNat, (s[i]'hi).toNat_lt⟩
  have hf' : fnd ((s[i]'hi).toNat : Int) 64 (-1) = val ((s[i]'hi).toNat : Int) := hf
  rw [hf', hv, show ((64 - 64 : Nat) : Int) = 0 from rfl] at h1
  obtain ⟨m, hm⟩ : ∃ m, m = k + 1 + 1 + 1 + 1 + 1 + 1 + 1 + 64 + 1 := ⟨_, rfl⟩
  rw [← hm] at h1
  rw [show k + 73 = m + 1 by omega]
  simp only [latchkeyref03_Decode.l0]
  rw [if_pos (by omega), h1]
  unfold after
  by_cases h : v < 0
  · rw [if_pos h, if_pos h]
  · rw [if_neg h, if_neg h, l2_six k s hs out i hi v (by omega)]

theorem l0_good (s : ByteArray) (hs : s.size ≤ 35184372088832) (hg : goodT (nb s) = true) (len : Nat) (d : Nat) : ∀ (i k : Nat), i + d = s.size → 73 * d ≤ k →
    latchkeyref03_Decode.l0 k s signs (outAt ((nb s).map val) len (6 * i)) (i : Int) = latchkeyref03_Decode.l0 (k - 73 * d) s signs (outAt ((nb s).map val) len (6 * s.size)) (s.size : Int) := by
  induction d with
  | zero =>
    intro i k hi hk
    obtain rfl : i = s.size := by omega
    rfl
  | succ d ih =>
    intro i k hi hk
    have hlt : i < s.size := by omega
    obtain ⟨k, rfl⟩ : ∃ m, k = m + 73 := ⟨k - 73, by omega⟩
    have hget := nb_get s i hlt
    have hv0 : 0 ≤ val ((s[i]'hlt).toNat : Int) := by
      have hm : ((s[i]'hlt).toNat : Int) ∈ nb s := List.mem_of_getElem? hget
      simp only [goodT, List.all_eq_true, decide_eq_true_eq] at hg
      exact hg _ hm
    rw [l0_sign k s (by omega) _ i hlt _ rfl, if_neg (by omega)]
    have hb : ∀ t, t < 6 → val ((s[i]'hlt).toNat : Int) / 2 ^ (5 - t) % 2 = bit6 ((nb s).map val) (6 * i + t) := by
      intro t ht
      unfold bit6
      rw [show (6 * i + t) / 6 = i by omega, show (6 * i + t) % 6 = t by omega, List.getD_eq_getElem?_getD, List.getElem?_map, hget]
      rfl
    unfold sixB
    rw [hb 0 (by decide), hb 1 (by decide), hb 2 (by decide), hb 3 (by decide), hb 4 (by decide), hb 5 (by decide)]
    rw [show 6 * i + 0 = 6 * i by omega]
    rw [outAt_step, outAt_step, outAt_step, outAt_step, outAt_step, outAt_step]
    have ih := ih (i + 1) k (by omega) (by omega)
    rw [show 6 * (i + 1) = 6 * i + 5 + 1 by omega] at ih
    rw [ih]
    congr 1
    omega

theorem l0_bad (s : ByteArray) (hs : s.size ≤ 35184372088832) (d : Nat) : ∀ (i k : Nat) (out : List Int), i + d = s.size → 73 * d ≤ k → (∃ j, i ≤ j ∧ ∃ h : j < s.size, val ((s[j]'h).toNat : Int) < 0) →
    latchkeyref03_Decode.l0 k s signs out (i : Int) = some ([], false) := by
  induction d with
  | zero =>
    rintro i k out hi hk ⟨j, hj, h, hv⟩
    omega
  | succ d ih =>
    rintro i k out hi hk ⟨j, hj, h, hv⟩
    have hlt : i < s.size := by omega
    obtain ⟨k, rfl⟩ : ∃ m, k = m + 73 := ⟨k - 73, by omega⟩
    rw [l0_sign k s (by omega) _ i hlt _ rfl]
    by_cases h0 : val ((s[i]'hlt).toNat : Int) < 0
    · rw [if_pos h0]
    · rw [if_neg h0]
      refine ih (i + 1) k _ (by omega) (by omega) ⟨j, ?_, h, hv⟩
      rcases Nat.eq_or_lt_of_le hj with rfl | h1
      · exact absurd hv h0
      · omega

theorem toInts_inj : ∀ l m : List UInt8, l.map (fun x => (x.toNat : Int)) = m.map (fun x => (x.toNat : Int)) → l = m
  | [], [], _ => rfl
  | [], _ :: _, h => by simp at h
  | _ :: _, [], h => by simp at h
  | a :: l, b :: m, h => by
    simp only [List.map_cons, List.cons.injEq] at h
    have h1 : a = b := UInt8.toNat_inj.1 (by exact_mod_cast h.1)
    rw [h1, toInts_inj l m h.2]
theorem bytes_inj {a b : ByteArray} : a.toList = b.toList ↔ nb a = nb b := by
  rw [ByteArray.toList_eq, ByteArray.toList_eq]
  exact ⟨fun h => by unfold nb; rw [h], fun h => toInts_inj _ _ h⟩
theorem nb_str : ∀ l : List Int, Byt l → nb (strOfNums l) = l := by
  intro l h
  unfold nb
  rw [strOfNums_data, List.map_map]
  refine (List.map_congr_left fun x hx => ?_).trans (List.map_id l)
  have := h x hx
  simp only [Function.comp, id]
  have e : (UInt8.ofNat x.toNat).toNat = x.toNat := by rw [UInt8.toNat_ofNat']; omega
  rw [e]
  omega
theorem str_inj {a b : List Int} (ha : Byt a) (hb : Byt b) : (strOfNums a).toList = (strOfNums b).toList ↔ a = b := by
  rw [bytes_inj, nb_str a ha, nb_str b hb]

theorem encT_byt (b : List Int) (h : Byt b) : Byt (encT b) := by
  intro x hx
  obtain ⟨v, hv, rfl⟩ := List.mem_map.1 hx
  have := encV_six b h v hv
  have := sgn_lt this.1 this.2
  omega
theorem encT_length (b : List Int) : (encT b).length = (8 * b.length + 5) / 6 := by unfold encT; rw [List.length_map, encV_length]

theorem refdec_f (s : ByteArray) (hs : s.size ≤ 1000000) (k : Nat) (hk : 100 * s.size + 100 ≤ k) :
    latchkeyref03_Decode.f k s = some (match decT (nb s) with | some b => (b, true) | none => ([], false)) := by
  have hw : wrap64 (Int.tdiv (wrap64 (6 * (s.size : Int))) 8) = ((6 * s.size / 8 : Nat) : Int) := by
    rw [show wrap64 (6 * (s.size : Int)) = 6 * (s.size : Int) by unfold wrap64; omega, Int.tdiv_eq_ediv_of_nonneg (by omega)]
    have hc : ((6 * s.size / 8 : Nat) : Int) = 6 * (s.size : Int) / 8 := by push_cast; rfl
    rw [hc]
    unfold wrap64; omega
  unfold latchkeyref03_Decode.f
  rw [hw, if_pos (by omega), if_pos (by omega), Int.toNat_natCast]
  show latchkeyref03_Decode.l0 k s signs (List.replicate (6 * s.size / 8) 0) 0 = _
  by_cases hg : goodT (nb s) = true
  · have h6 := six_val (nb s) hg
    have hb := decV_byt _ h6
    have hlen : ((nb s).map val).length = s.size := by rw [List.length_map, nb_length]
    have hdl : (decV ((nb s).map val)).length ≤ s.size := by rw [decV_length, hlen]; omega
    have h0 := l0_good s (by omega) hg (6 * s.size / 8) s.size 0 k (by omega) (by omega)
    rw [show 6 * 0 = 0 by rfl, outAt_zero] at h0
    have hend := outAt_end _ h6
    rw [hlen] at hend
    rw [hend] at h0
    refine Eq.trans h0 ?_
    obtain ⟨m, hm⟩ : ∃ m, k - 73 * s.size = m + 1 := ⟨k - 73 * s.size - 1, by omega⟩
    rw [hm]
    simp only [latchkeyref03_Decode.l0]
    rw [if_neg (by omega), refenc_f _ (by omega) hb m (by omega)]
    simp only [Option.bind_some]
    rw [decT_by_text (nb s) hg]
    have hiff : (strOfNums (encT (decV ((nb s).map val)))).toList = s.toList ↔ encT (decV ((nb s).map val)) = nb s := by
      rw [bytes_inj, nb_str _ (encT_byt _ hb)]
    by_cases he : encT (decV ((nb s).map val)) = nb s
    · rw [if_pos (hiff.2 he), if_pos he]
    · rw [if_neg (fun h => he (hiff.1 h)), if_neg he]
  · have hb : ∃ j, 0 ≤ j ∧ ∃ h : j < s.size, val ((s[j]'h).toNat : Int) < 0 := by
      have : ∃ x ∈ nb s, ¬ 0 ≤ val x := by simpa [goodT] using hg
      obtain ⟨x, hx, hv⟩ := this
      obtain ⟨j, hj, rfl⟩ := List.mem_iff_getElem.1 hx
      have hjs : j < s.size := by rw [nb_length] at hj; exact hj
      refine ⟨j, Nat.zero_le _, hjs, ?_⟩
      have := nb_get s j hjs
      rw [List.getElem?_eq_getElem hj] at this
      rw [Option.some.inj this] at hv
      omega
    rw [show decT (nb s) = none by unfold decT; rw [if_neg (fun h => hg h.1)]]
    exact l0_bad s (by omega) s.size 0 k _ (by omega) (by omega) hb

theorem wf_byt {l : List Int} (h : ∀ x ∈ l, (Lit.int .u8 x).wf = true) : Byt l := by
  intro x hx
  have := h x hx
  simp only [Lit.wf, IntKind.min, IntKind.max, IntKind.signed, IntKind.bits, Bool.and_eq_true, decide_eq_true_eq] at this
  simp at this
  omega

end Go.Proofs.Ytabdkmlindgkmaa.B64
