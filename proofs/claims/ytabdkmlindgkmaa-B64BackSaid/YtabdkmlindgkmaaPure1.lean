/- What the printed functions b64.Encode, latchkeyref03.Encode and latchkeyref03.Decode come to: encT and decT (plain). -/
import Derived.Test.YtabdkmlindgkmaaPAllx2
import Derived.Test.YtabdkmlindgkmaaPAllxv
import Derived.Test.YtabdkmlindgkmaaPure0
import Derived.Laws.BitsAllLaws
set_option linter.unusedVariables false
set_option linter.unusedSimpArgs false
namespace Go.Proofs.Ytabdkmlindgkmaa.B64
open Go.RowKit Go.Proofs.YtabdkmlindgkmaaW.PrintWords Go.Proofs.YtabdkmlindgkmaaW.PrintLast Go.Proofs.YtabdkmlindgkmaaW.PrintMore
open Go.Proofs.Ytabdkmlindgkmaa.PAll

theorem sign_f {v : Int} (h0 : 0 ≤ v) (h1 : v < 64) : b64_sign.f v = some (sgn v) := by
  unfold b64_sign.f sgn
  repeat' split
  all_goals first | omega | (congr 1; omega) | rfl

theorem u32_or_join (x c : Int) (h0 : 0 ≤ x) (h1 : x < 4294967296) (i : Nat) (hx : x % 2 ^ i = 0) (c0 : 0 ≤ c) (c1 : c < 2 ^ i) (c2 : c < 4294967296) : Go.bits .or .u32 x c = x + c :=
  bits_join .u32 32 (by decide) (fun n a b => by simp only [IntKind.wrap, IntKind.bits, IntKind.signed]; simp; omega) i x c h0 hx (by omega) c0 c1 (by omega)
theorem u32_and63 (x : Int) (h0 : 0 ≤ x) (h1 : x < 4294967296) : Go.bits .and .u32 x 63 = x % 64 :=
  bits_mask .u32 32 (by decide) (fun n a b => by simp only [IntKind.wrap, IntKind.bits, IntKind.signed]; simp; omega) 6 (by decide) x h0 (by omega)

theorem rd_drop {l r : List Int} {i : Nat} (h : l.drop i = r) (j : Nat) (c : Int) (hc : r[j]? = some c) : rd l ((i + j : Nat) : Int) = c ∧ i + j < l.length := by
  subst h
  rw [List.getElem?_drop] at hc
  have hlt : i + j < l.length := by
    rcases Nat.lt_or_ge (i + j) l.length with h | h
    · exact h
    · rw [List.getElem?_eq_none h] at hc; cases hc
  refine ⟨?_, hlt⟩
  unfold rd
  rw [List.getD_eq_getElem?_getD, Int.toNat_natCast, hc]
  rfl

/-! ### b64.Encode -/
theorem enc_l0_step (k : Nat) (out : List Int) (acc n : Int) (l : List Int) (i : Nat) (c : Int) (hc : rd l (i : Int) = c) (hi : i < l.length) (ha0 : 0 ≤ acc) (ha1 : acc < 4294967296) (c0 : 0 ≤ c) (c1 : c < 256) (n0 : 0 ≤ n) (n1 : n < 8) :
    b64_Encode.l0 (k + 1) out acc n l (l.length : Int) (i : Int) = b64_Encode.l1 k out ((acc * 256) % 4294967296 + c) (n + 8) l (l.length : Int) (i : Int) := by
  simp only [b64_Encode.l0]
  rw [if_pos (by omega), if_pos (by omega), if_pos (by omega), hc, Int.emod_eq_of_lt c0 (by omega : c < 4294967296)]
  rw [u32_or_join _ _ (by omega) (by omega) 8 (by omega) c0 (by omega) (by omega)]
  rw [show wrap64 (n + 8) = n + 8 by unfold wrap64; omega]

theorem shr_u32 (x : Int) (y : Int) (j : Nat) (hy : y = (j : Int)) (hj : j ≤ 32) : shr .u32 x y = x / 2 ^ j := by
  subst hy
  unfold shr
  simp only [IntKind.bits, Int.toNat_natCast, Nat.min_eq_left hj]

theorem enc_l1_emit (k : Nat) (out : List Int) (acc n : Int) (j : Nat) (D : Int) (hD : (2 : Int) ^ j = D) (hD0 : 0 < D) (l : List Int) (i : Int) (hj : j ≤ 8) (hn : n = (j : Int) + 6) (ha0 : 0 ≤ acc) (ha1 : acc < 4294967296) (ho : out.length < 140737488355328) (d : Int) (hd : acc / D % 64 = d) :
    b64_Encode.l1 (k + 1) out acc n l (l.length : Int) i = b64_Encode.l1 k (out ++ [sgn d]) acc (j : Int) l (l.length : Int) i := by
  subst hn
  subst hd
  simp only [b64_Encode.l1]
  have hw : wrap64 ((j : Int) + 6 - 6) = (j : Int) := by unfold wrap64; omega
  have hq0 : 0 ≤ acc / D := Int.ediv_nonneg ha0 (by omega)
  have hq1 : acc / D ≤ acc := Int.ediv_le_self _ ha0
  rw [if_pos (by omega), hw, if_pos (by omega), shr_u32 _ _ j rfl (by omega), hD, u32_and63 _ hq0 (by omega), Int.emod_eq_of_lt (by omega : 0 ≤ acc / D % 64) (by omega), sign_f (by omega) (by omega)]
  simp only [Option.bind_some]
  rw [if_pos ho]

theorem enc_l1_exit (k : Nat) (out : List Int) (acc n : Int) (l : List Int) (i : Nat) (hn : n < 6) (hi : i ≤ 140737488351232) :
    b64_Encode.l1 (k + 1) out acc n l (l.length : Int) (i : Int) = b64_Encode.l0 k out acc n l (l.length : Int) ((i + 1 : Nat) : Int) := by
  simp only [b64_Encode.l1]
  rw [if_neg (by omega), show wrap64 ((i : Int) + 1) = ((i + 1 : Nat) : Int) by unfold wrap64; omega]

theorem enc_l0_end0 (k : Nat) (out : List Int) (acc : Int) (l : List Int) (i : Nat) (hi : l.length ≤ i) :
    b64_Encode.l0 (k + 1) out acc 0 l (l.length : Int) (i : Int) = some (strOfNums out) := by
  simp only [b64_Encode.l0]
  rw [if_neg (by omega), if_neg (by omega)]

theorem shl_u32 (x : Int) (y : Int) (j : Nat) (hy : y = (j : Int)) (hj : j ≤ 32) : shl .u32 x y = x * 2 ^ j % 4294967296 := by
  subst hy
  unfold shl
  simp only [IntKind.bits, Int.toNat_natCast, Nat.min_eq_left hj, IntKind.wrap_u32]

theorem enc_l0_end (k : Nat) (out : List Int) (acc n : Int) (j : Nat) (D : Int) (hD : (2 : Int) ^ j = D) (hD0 : 0 < D) (l : List Int) (i : Nat) (hi : l.length ≤ i) (hj : j < 6) (hn : n = 6 - (j : Int)) (ha0 : 0 ≤ acc) (ho : out.length < 140737488355328)
    (d : Int) (hd : acc * D % 4294967296 % 64 = d) :
    b64_Encode.l0 (k + 1) out acc n l (l.length : Int) (i : Int) = some (strOfNums (out ++ [sgn d])) := by
  subst hn
  subst hd
  simp only [b64_Encode.l0]
  have hw : wrap64 (6 - (6 - (j : Int))) = (j : Int) := by unfold wrap64; omega
  rw [if_neg (by omega), if_pos (by omega), hw, if_pos (by omega), shl_u32 _ _ j rfl (by omega), hD, u32_and63 _ (by omega) (by omega), Int.emod_eq_of_lt (by omega : 0 ≤ acc * D % 4294967296 % 64) (by omega), sign_f (by omega) (by omega)]
  simp only [Option.bind_some]
  rw [if_pos ho]

theorem enc_loop (l : List Int) (hl : l.length ≤ 140737488351232) : ∀ (r : List Int) (i : Nat) (out : List Int) (acc : Int) (k : Nat), l.drop i = r → Byt r → 0 ≤ acc → acc < 4294967296 →
    out.length + (encV r).length < 140737488355328 → 4 * r.length + 1 ≤ k → i ≤ l.length → b64_Encode.l0 k out acc 0 l (l.length : Int) (i : Int) = some (strOfNums (out ++ (encV r).map sgn))
  | [], i, out, acc, k, hr, hb, ha0, ha1, ho, hk, hi => by
    obtain ⟨k, rfl⟩ : ∃ m, k = m + 1 := ⟨k - 1, by omega⟩
    have : l.length ≤ i := by have := congrArg List.length hr; simp at this; omega
    rw [enc_l0_end0 _ _ _ _ _ this]
    simp [encV]
  | [a], i, out, acc, k, hr, hb, ha0, ha1, ho, hk, hi => by
    obtain ⟨ha, _⟩ := hb.cons
    have hlen : l.length - i = 1 := by have := congrArg List.length hr; simpa using this
    obtain ⟨k, rfl⟩ : ∃ m, k = m + 4 := ⟨k - 4, by simp only [List.length_cons, List.length_nil] at hk; omega⟩
    obtain ⟨r0, l0⟩ := rd_drop hr 0 a rfl
    simp only [encV, List.length_cons, List.length_nil] at ho
    rw [enc_l0_step (k + 3) out acc 0 l i a r0 (by omega) ha0 ha1 ha.1 ha.2 (by omega) (by omega)]
    rw [enc_l1_emit (k + 2) out _ _ 2 4 (by decide) (by decide) l _ (by omega) (by omega) (by omega) (by omega) (by omega) (a / 4) (by omega)]
    rw [enc_l1_exit (k + 1) _ _ _ _ _ (by omega) (by omega)]
    rw [enc_l0_end k _ _ _ 4 16 (by decide) (by decide) l _ (by omega) (by omega) (by omega) (by omega) (by simp only [List.length_append, List.length_cons, List.length_nil]; omega) (a % 4 * 16) (by omega)]
    simp [encV]
  | [a, b], i, out, acc, k, hr, hb, ha0, ha1, ho, hk, hi => by
    obtain ⟨ha, hb⟩ := hb.cons
    obtain ⟨hb, _⟩ := hb.cons
    have hlen : l.length - i = 2 := by have := congrArg List.length hr; simpa using this
    obtain ⟨k, rfl⟩ : ∃ m, k = m + 7 := ⟨k - 7, by simp only [List.length_cons, List.length_nil] at hk; omega⟩
    obtain ⟨r0, l0⟩ := rd_drop hr 0 a rfl
    obtain ⟨r1, l1⟩ := rd_drop hr 1 b rfl
    simp only [encV, List.length_cons, List.length_nil] at ho
    rw [enc_l0_step (k + 6) out acc 0 l i a r0 (by omega) ha0 ha1 ha.1 ha.2 (by omega) (by omega)]
    rw [enc_l1_emit (k + 5) out _ _ 2 4 (by decide) (by decide) l _ (by omega) (by omega) (by omega) (by omega) (by omega) (a / 4) (by omega)]
    rw [enc_l1_exit (k + 4) _ _ _ _ _ (by omega) (by omega)]
    rw [enc_l0_step (k + 3) _ _ _ l (i + 1) b r1 (by omega) (by omega) (by omega) hb.1 hb.2 (by omega) (by omega)]
    rw [enc_l1_emit (k + 2) _ _ _ 4 16 (by decide) (by decide) l _ (by omega) (by omega) (by omega) (by omega) (by simp only [List.length_append, List.length_cons, List.length_nil]; omega) (a % 4 * 16 + b / 16) (by omega)]
    rw [enc_l1_exit (k + 1) _ _ _ _ _ (by omega) (by omega)]
    rw [enc_l0_end k _ _ _ 2 4 (by decide) (by decide) l _ (by omega) (by omega) (by omega) (by omega) (by simp only [List.length_append, List.length_cons, List.length_nil]; omega) (b % 16 * 4) (by omega)]
    simp [encV]
  | a :: b :: c :: r, i, out, acc, k, hr, hb, ha0, ha1, ho, hk, hi => by
    obtain ⟨ha, hb⟩ := hb.cons
    obtain ⟨hb, hc⟩ := hb.cons
    obtain ⟨hc, hbr⟩ := hc.cons
    have hlen : l.length - i = r.length + 3 := by have := congrArg List.length hr; simpa using this
    obtain ⟨k, rfl⟩ : ∃ m, k = m + 10 := ⟨k - 10, by simp only [List.length_cons] at hk; omega⟩
    obtain ⟨r0, l0⟩ := rd_drop hr 0 a rfl
    obtain ⟨r1, l1⟩ := rd_drop hr 1 b rfl
    obtain ⟨r2, l2⟩ := rd_drop hr 2 c rfl
    simp only [encV, List.length_cons] at ho
    have hr3 : l.drop (i + 3) = r := by rw [← List.drop_drop, hr]; rfl
    rw [enc_l0_step (k + 9) out acc 0 l i a r0 (by omega) ha0 ha1 ha.1 ha.2 (by omega) (by omega)]
    rw [enc_l1_emit (k + 8) out _ _ 2 4 (by decide) (by decide) l _ (by omega) (by omega) (by omega) (by omega) (by omega) (a / 4) (by omega)]
    rw [enc_l1_exit (k + 7) _ _ _ _ _ (by omega) (by omega)]
    rw [enc_l0_step (k + 6) _ _ _ l (i + 1) b r1 (by omega) (by omega) (by omega) hb.1 hb.2 (by omega) (by omega)]
    rw [enc_l1_emit (k + 5) _ _ _ 4 16 (by decide) (by decide) l _ (by omega) (by omega) (by omega) (by omega) (by simp only [List.length_append, List.length_cons, List.length_nil]; omega) (a % 4 * 16 + b / 16) (by omega)]
    rw [enc_l1_exit (k + 4) _ _ _ _ _ (by omega) (by omega)]
    rw [enc_l0_step (k + 3) _ _ _ l (i + 1 + 1) c r2 (by omega) (by omega) (by omega) hc.1 hc.2 (by omega) (by omega)]
    rw [enc_l1_emit (k + 2) _ _ _ 6 64 (by decide) (by decide) l _ (by omega) (by omega) (by omega) (by omega) (by simp only [List.length_append, List.length_cons, List.length_nil]; omega) (b % 16 * 4 + c / 64) (by omega)]
    rw [enc_l1_emit (k + 1) _ _ _ 0 1 (by decide) (by decide) l _ (by omega) (by omega) (by omega) (by omega) (by simp only [List.length_append, List.length_cons, List.length_nil]; omega) (c % 64) (by omega)]
    rw [enc_l1_exit k _ _ _ _ _ (by omega) (by omega)]
    have ih := enc_loop l hl r (i + 3) (out ++ [sgn (a / 4)] ++ [sgn (a % 4 * 16 + b / 16)] ++ [sgn (b % 16 * 4 + c / 64)] ++ [sgn (c % 64)]) (((acc * 256 % 4294967296 + a) * 256 % 4294967296 + b) * 256 % 4294967296 + c) k hr3 hbr (by omega) (by omega)
      (by simp only [List.length_append, List.length_cons, List.length_nil]; omega) (by simp only [List.length_cons] at hk; omega) (by omega)
    refine Eq.trans ih ?_
    simp [encV]

theorem enc_f (l : List Int) (hl : l.length ≤ 70368744177600) (hb : Byt l) (k : Nat) (hk : 4 * l.length + 1 ≤ k) : b64_Encode.f k l = some (strOfNums (encT l)) := by
  unfold b64_Encode.f
  have := enc_loop l (by omega) l 0 [] 0 k rfl hb (by omega) (by omega) (by rw [encV_length]; simp; omega) hk (by omega)
  simpa [encT] using this

/-! ### latchkeyref03.Encode -/
def signs : ByteArray := ⟨#[65, 66, 67, 68, 69, 70, 71, 72, 73, 74, 75, 76, 77, 78, 79, 80, 81, 82, 83, 84, 85, 86, 87, 88, 89, 90, 97, 98, 99, 100, 101, 102, 103, 104, 105, 106, 107, 108, 109, 110, 111, 112, 113, 114, 115, 116, 117, 118, 119, 120, 121, 122, 48, 49, 50, 51, 52, 53, 54, 55, 56, 57, 45, 95]⟩
theorem bt_signs_all : ∀ v : Fin 64, bt signs ((v.val : Nat) : Int) = sgn ((v.val : Nat) : Int) := by decide +kernel
theorem bt_signs {v : Int} (h0 : 0 ≤ v) (h1 : v < 64) : bt signs v = sgn v := by
  obtain ⟨n, rfl⟩ := Int.eq_ofNat_of_zero_le h0
  exact bt_signs_all ⟨n, by omega⟩

/-- Bit i of bytes, the greatest of the first byte first. -/
def bitAt (l : List Int) (i : Nat) : Int := l.getD (i / 8) 0 / 2 ^ (7 - i % 8) % 2
theorem bitAt_01 (l : List Int) (i : Nat) : 0 ≤ bitAt l i ∧ bitAt l i < 2 := by unfold bitAt; omega
theorem shr_u8 (x : Int) (y : Int) (j : Nat) (hy : y = (j : Int)) (hj : j ≤ 8) : shr .u8 x y = x / 2 ^ j := by
  subst hy
  unfold shr
  simp only [IntKind.bits, Int.toNat_natCast, Nat.min_eq_left hj]

theorem ref_l1_step (k : Nat) (l : List Int) (hl : l.length ≤ 140737488351232) (hb : Byt l) (out : List Int) (at_ : Nat) (x : Int) (i : Nat) (h1 : i < at_ + 6) (h2 : at_ ≤ i) (ha : at_ ≤ 8 * l.length) (x0 : 0 ≤ x) (x1 : x < 32) :
    latchkeyref03_Encode.l1 (k + 1) l signs out (at_ : Int) x (i : Int) = latchkeyref03_Encode.l1 k l signs out (at_ : Int) (2 * x + bitAt l i) ((i + 1 : Nat) : Int) := by
  simp only [latchkeyref03_Encode.l1]
  have hw : wrap64 ((at_ : Int) + 6) = (at_ : Int) + 6 := by unfold wrap64; omega
  have hw8 : wrap64 (8 * (l.length : Int)) = 8 * (l.length : Int) := by unfold wrap64; omega
  have hwi : wrap64 ((i : Int) + 1) = ((i + 1 : Nat) : Int) := by unfold wrap64; omega
  have hwx : wrap64 (2 * x) = 2 * x := by unfold wrap64; omega
  have hwx1 : wrap64 (2 * x + 1) = 2 * x + 1 := by unfold wrap64; omega
  rw [hw, if_pos (by omega), hw8]
  have h01 := bitAt_01 l i
  by_cases hi : (i : Int) < 8 * (l.length : Int)
  · rw [if_pos hi]
    have hd : wrap64 (Int.tdiv (i : Int) 8) = ((i / 8 : Nat) : Int) := by
      rw [Int.tdiv_eq_ediv_of_nonneg (by omega)]; unfold wrap64; omega
    have hm : wrap64 (7 - Int.tmod (i : Int) 8) = ((7 - i % 8 : Nat) : Int) := by
      rw [Int.tmod_eq_emod_of_nonneg (by omega)]; unfold wrap64; omega
    have hg : rd l ((i / 8 : Nat) : Int) = l.getD (i / 8) 0 := by unfold rd; rw [Int.toNat_natCast]
    have hmem : 0 ≤ l.getD (i / 8) 0 := by
      rw [List.getD_eq_getElem?_getD, List.getElem?_eq_getElem (by omega : i / 8 < l.length)]
      exact (hb _ (List.getElem_mem _)).1
    rw [hd, hm, if_pos (by omega), if_pos (by omega), if_pos (by omega), hg, shr_u8 _ _ (7 - i % 8) rfl (by omega)]
    rw [Int.tmod_eq_emod_of_nonneg (Int.ediv_nonneg hmem (Int.le_of_lt (Int.pow_pos (by decide))))]
    have hbit : l.getD (i / 8) 0 / 2 ^ (7 - i % 8) % 2 = bitAt l i := rfl
    rw [hbit, hwi, hwx, hwx1]
    by_cases h : bitAt l i = 1
    · rw [if_pos h, h]
    · rw [if_neg h, show bitAt l i = 0 by omega]; simp
  · rw [if_neg hi, hwi, hwx]
    have : bitAt l i = 0 := by
      unfold bitAt
      rw [List.getD_eq_getElem?_getD, List.getElem?_eq_none (by omega)]
      simp
    rw [this]; simp

def sixAt (l : List Int) (i : Nat) : Int := 2 * (2 * (2 * (2 * (2 * bitAt l i + bitAt l (i + 1)) + bitAt l (i + 2)) + bitAt l (i + 3)) + bitAt l (i + 4)) + bitAt l (i + 5)

theorem ref_l0_step (k : Nat) (l : List Int) (hl : l.length ≤ 140737488351232) (hb : Byt l) (out : List Int) (at_ : Nat) (ha : at_ < 8 * l.length) (ho : out.length < 140737488355328) (d : Int) (hd : sixAt l at_ = d) :
    latchkeyref03_Encode.l0 (k + 8) l signs out (at_ : Int) = latchkeyref03_Encode.l0 k l signs (out ++ [sgn d]) ((at_ + 6 : Nat) : Int) := by
  subst hd
  have hw8 : wrap64 (8 * (l.length : Int)) = 8 * (l.length : Int) := by unfold wrap64; omega
  have b0 := bitAt_01 l at_
  have b1 := bitAt_01 l (at_ + 1)
  have b2 := bitAt_01 l (at_ + 2)
  have b3 := bitAt_01 l (at_ + 3)
  have b4 := bitAt_01 l (at_ + 4)
  have b5 := bitAt_01 l (at_ + 5)
  have b2' := bitAt_01 l (at_ + 1 + 1)
  have b3' := bitAt_01 l (at_ + 1 + 1 + 1)
  have b4' := bitAt_01 l (at_ + 1 + 1 + 1 + 1)
  have b5' := bitAt_01 l (at_ + 1 + 1 + 1 + 1 + 1)
  have e0 : latchkeyref03_Encode.l0 (k + 8) l signs out (at_ : Int) = latchkeyref03_Encode.l1 (k + 7) l signs out (at_ : Int) 0 (at_ : Int) := by
    simp only [latchkeyref03_Encode.l0]
    rw [hw8, if_pos (by omega)]
  rw [e0]
  rw [ref_l1_step (k + 6) l hl hb out at_ 0 at_ (by omega) (by omega) (by omega) (by omega) (by omega)]
  rw [ref_l1_step (k + 5) l hl hb out at_ _ (at_ + 1) (by omega) (by omega) (by omega) (by omega) (by omega)]
  rw [ref_l1_step (k + 4) l hl hb out at_ _ (at_ + 1 + 1) (by omega) (by omega) (by omega) (by omega) (by omega)]
  rw [ref_l1_step (k + 3) l hl hb out at_ _ (at_ + 1 + 1 + 1) (by omega) (by omega) (by omega) (by omega) (by omega)]
  rw [ref_l1_step (k + 2) l hl hb out at_ _ (at_ + 1 + 1 + 1 + 1) (by omega) (by omega) (by omega) (by omega) (by omega)]
  rw [ref_l1_step (k + 1) l hl hb out at_ _ (at_ + 1 + 1 + 1 + 1 + 1) (by omega) (by omega) (by omega) (by omega) (by omega)]
  have hs : (2 * (2 * (2 * (2 * (2 * (2 * 0 + bitAt l at_) + bitAt l (at_ + 1)) + bitAt l (at_ + 1 + 1)) + bitAt l (at_ + 1 + 1 + 1)) + bitAt l (at_ + 1 + 1 + 1 + 1)) + bitAt l (at_ + 1 + 1 + 1 + 1 + 1)) = sixAt l at_ := by
    simp only [sixAt, Nat.add_assoc]
    simp
  rw [hs]
  have hr : 0 ≤ sixAt l at_ ∧ sixAt l at_ < 64 := by unfold sixAt; omega
  simp only [latchkeyref03_Encode.l1]
  have hw : wrap64 ((at_ : Int) + 6) = ((at_ + 6 : Nat) : Int) := by unfold wrap64; omega
  rw [hw, if_neg (by omega), if_pos hr.1, if_pos (by show _ < ((64 : Nat) : Int); omega), if_pos ho, bt_signs hr.1 hr.2]

theorem bitAt_drop (l : List Int) (q t : Nat) : bitAt l (8 * q + t) = bitAt (l.drop q) t := by
  unfold bitAt
  rw [show (8 * q + t) / 8 = q + t / 8 by omega, show (8 * q + t) % 8 = t % 8 by omega]
  simp only [List.getD_eq_getElem?_getD, List.getElem?_drop]
theorem sixAt_drop (l r : List Int) (q t : Nat) (h : l.drop q = r) : sixAt l (8 * q + t) = sixAt r t := by
  subst h
  simp only [sixAt, Nat.add_assoc, bitAt_drop]

theorem six0 {a : Int} (r : List Int) (h : 0 ≤ a ∧ a < 256) : sixAt (a :: r) 0 = a / 4 := by
  simp [sixAt, bitAt]; omega
theorem six6 {a b : Int} (r : List Int) (h : 0 ≤ a ∧ a < 256) (hb : 0 ≤ b ∧ b < 256) : sixAt (a :: b :: r) 6 = a % 4 * 16 + b / 16 := by
  simp [sixAt, bitAt]; omega
theorem six6e {a : Int} (h : 0 ≤ a ∧ a < 256) : sixAt [a] 6 = a % 4 * 16 := by
  simp [sixAt, bitAt]; omega
theorem six12 {a b c : Int} (r : List Int) (h : 0 ≤ b ∧ b < 256) (hb : 0 ≤ c ∧ c < 256) : sixAt (a :: b :: c :: r) 12 = b % 16 * 4 + c / 64 := by
  simp [sixAt, bitAt]; omega
theorem six12e {a b : Int} (h : 0 ≤ b ∧ b < 256) : sixAt [a, b] 12 = b % 16 * 4 := by
  simp [sixAt, bitAt]; omega
theorem six18 {a b c : Int} (r : List Int) (hb : 0 ≤ c ∧ c < 256) : sixAt (a :: b :: c :: r) 18 = c % 64 := by
  simp [sixAt, bitAt]; omega

theorem ref_l0_end (k : Nat) (l : List Int) (hl : l.length ≤ 140737488351232) (out : List Int) (at_ : Nat) (ha : 8 * l.length ≤ at_) : latchkeyref03_Encode.l0 (k + 1) l signs out (at_ : Int) = some (strOfNums out) := by
  simp only [latchkeyref03_Encode.l0]
  have hw8 : wrap64 (8 * (l.length : Int)) = 8 * (l.length : Int) := by unfold wrap64; omega
  rw [hw8, if_neg (by omega)]

theorem ref_loop (l : List Int) (hl : l.length ≤ 140737488351232) (hB : Byt l) : ∀ (r : List Int) (q : Nat) (out : List Int) (k : Nat), l.drop q = r → Byt r →
    out.length + (encV r).length < 140737488355328 → 16 * r.length + 1 ≤ k → latchkeyref03_Encode.l0 k l signs out ((8 * q : Nat) : Int) = some (strOfNums (out ++ (encV r).map sgn))
  | [], q, out, k, hr, hb, ho, hk => by
    obtain ⟨k, rfl⟩ : ∃ m, k = m + 1 := ⟨k - 1, by omega⟩
    have : l.length ≤ q := by have := congrArg List.length hr; simp at this; omega
    rw [ref_l0_end _ _ hl _ _ (by omega)]
    simp [encV]
  | [a], q, out, k, hr, hb, ho, hk => by
    obtain ⟨ha, _⟩ := hb.cons
    have hlen : l.length - q = 1 := by have := congrArg List.length hr; simpa using this
    obtain ⟨k, rfl⟩ : ∃ m, k = m + 1 + 8 + 8 := ⟨k - 17, by simp only [List.length_cons, List.length_nil] at hk; omega⟩
    simp only [encV, List.length_cons, List.length_nil] at ho
    rw [ref_l0_step _ l hl hB out (8 * q) (by omega) (by omega) (a / 4) (by rw [← six0 [] ha]; exact sixAt_drop l [a] q 0 hr)]
    rw [ref_l0_step _ l hl hB _ (8 * q + 6) (by omega) (by simp only [List.length_append, List.length_cons, List.length_nil]; omega) (a % 4 * 16) (by rw [← six6e ha]; exact sixAt_drop l [a] q 6 hr)]
    rw [ref_l0_end _ _ hl _ _ (by omega)]
    simp [encV]
  | [a, b], q, out, k, hr, hb, ho, hk => by
    obtain ⟨ha, hb⟩ := hb.cons
    obtain ⟨hb, _⟩ := hb.cons
    have hlen : l.length - q = 2 := by have := congrArg List.length hr; simpa using this
    obtain ⟨k, rfl⟩ : ∃ m, k = m + 1 + 8 + 8 + 8 := ⟨k - 25, by simp only [List.length_cons, List.length_nil] at hk; omega⟩
    simp only [encV, List.length_cons, List.length_nil] at ho
    rw [ref_l0_step _ l hl hB out (8 * q) (by omega) (by omega) (a / 4) (by rw [← six0 [b] ha]; exact sixAt_drop l [a, b] q 0 hr)]
    rw [ref_l0_step _ l hl hB _ (8 * q + 6) (by omega) (by simp only [List.length_append, List.length_cons, List.length_nil]; omega) (a % 4 * 16 + b / 16) (by rw [← six6 [] ha hb]; exact sixAt_drop l [a, b] q 6 hr)]
    rw [ref_l0_step _ l hl hB _ (8 * q + 6 + 6) (by omega) (by simp only [List.length_append, List.length_cons, List.length_nil]; omega) (b % 16 * 4) (by rw [← six12e hb]; exact sixAt_drop l [a, b] q 12 hr)]
    rw [ref_l0_end _ _ hl _ _ (by omega)]
    simp [encV]
  | a :: b :: c :: r, q, out, k, hr, hb, ho, hk => by
    obtain ⟨ha, hb⟩ := hb.cons
    obtain ⟨hb, hc⟩ := hb.cons
    obtain ⟨hc, hbr⟩ := hc.cons
    have hlen : l.length - q = r.length + 3 := by have := congrArg List.length hr; simpa using this
    obtain ⟨k, rfl⟩ : ∃ m, k = m + 8 + 8 + 8 + 8 := ⟨k - 32, by simp only [List.length_cons] at hk; omega⟩
    simp only [encV, List.length_cons] at ho
    have hr3 : l.drop (q + 3) = r := by rw [← List.drop_drop, hr]; rfl
    rw [ref_l0_step _ l hl hB out (8 * q) (by omega) (by omega) (a / 4) (by rw [← six0 (b :: c :: r) ha]; exact sixAt_drop l _ q 0 hr)]
    rw [ref_l0_step _ l hl hB _ (8 * q + 6) (by omega) (by simp only [List.length_append, List.length_cons, List.length_nil]; omega) (a % 4 * 16 + b / 16) (by rw [← six6 (c :: r) ha hb]; exact sixAt_drop l _ q 6 hr)]
    rw [ref_l0_step _ l hl hB _ (8 * q + 6 + 6) (by omega) (by simp only [List.length_append, List.length_cons, List.length_nil]; omega) (b % 16 * 4 + c / 64) (by rw [← six12 (a := a) r hb hc]; exact sixAt_drop l _ q 12 hr)]
    rw [ref_l0_step _ l hl hB _ (8 * q + 6 + 6 + 6) (by omega) (by simp only [List.length_append, List.length_cons, List.length_nil]; omega) (c % 64) (by rw [← six18 (a := a) (b := b) r hc]; exact sixAt_drop l _ q 18 hr)]
    have ih := ref_loop l hl hB r (q + 3) (out ++ [sgn (a / 4)] ++ [sgn (a % 4 * 16 + b / 16)] ++ [sgn (b % 16 * 4 + c / 64)] ++ [sgn (c % 64)]) k hr3 hbr
      (by simp only [List.length_append, List.length_cons, List.length_nil]; omega) (by simp only [List.length_cons] at hk; omega)
    rw [show 8 * q + 6 + 6 + 6 + 6 = 8 * (q + 3) by omega]
    refine Eq.trans ih ?_
    simp [encV]

theorem refenc_f (l : List Int) (hl : l.length ≤ 70368744177600) (hb : Byt l) (k : Nat) (hk : 16 * l.length + 1 ≤ k) : latchkeyref03_Encode.f k l = some (strOfNums (encT l)) := by
  have := ref_loop l (by omega) hb l 0 [] k rfl hb (by rw [encV_length]; simp; omega) hk
  simpa [encT, latchkeyref03_Encode.f, signs] using this

end Go.Proofs.Ytabdkmlindgkmaa.B64
