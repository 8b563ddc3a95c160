/- What b64.Decode computes ('decS'), and the walk of its text: it ranges over a string's runes and appends. By hand. -/
import Derived.Test.YtabdkmlindgkmaaPAllx1
import Derived.Test.YtabdkmlindgkmaaPAllx2
import Derived.Test.YtabdkmlindgkmaaPAllxv
import Derived.Test.YtabdkmlindgkmaaPure0
import Derived.Lib.OthersKept
import Derived.WalkSmall
set_option linter.unusedVariables false
set_option linter.unusedSimpArgs false
namespace Go.Proofs.Ytabdkmlindgkmaa.PAll
open Go.RowKit Go.Proofs.YtabdkmlindgkmaaW.PrintWords Go.Proofs.YtabdkmlindgkmaaW.PrintLast Go.Proofs.YtabdkmlindgkmaaW.PrintMore
open Go.Proofs.Ytabdkmlindgkmaa.B64 (val val_lt)

/-- What value answers. -/
def valP (c : Int) : Int × Bool := if 0 ≤ val c then (val c, true) else (0, false)
theorem value_f (c : Int) (h0 : 0 ≤ c) (h1 : c ≤ 2147483647) : b64_value.f 4 c = some ((valP c).1, (valP c).2) := by
  have w1 : wrap32 (c - 65) = c - 65 := by unfold wrap32; omega
  have w2 : wrap32 (c - 97) = c - 97 := by unfold wrap32; omega
  have w3 : wrap32 (c - 48) = c - 48 := by unfold wrap32; omega
  have hval : b64_value.f 4 c = (if 65 ≤ c ∧ c ≤ 90 then some ((c - 65) % 256, true) else if 97 ≤ c ∧ c ≤ 122 then some (((c - 97) % 256 + 26) % 256, true) else if 48 ≤ c ∧ c ≤ 57 then some (((c - 48) % 256 + 52) % 256, true)
      else if c = 45 then some (62, true) else if c = 95 then some (63, true) else some (0, false)) := by
    have e0 : b64_value.f 4 c = b64_value.j0 4 c (decide (65 ≤ c ∧ c ≤ 90)) := by
      unfold b64_value.f
      by_cases h : c ≥ 65
      · rw [if_pos h]; congr 1; simp [show (65 : Int) ≤ c from h]
      · rw [if_neg h]; congr 1; symm; simp; omega
    have e1 : ∀ k, b64_value.j0 (k + 1) c false = b64_value.j1 k c (decide (97 ≤ c ∧ c ≤ 122)) := by
      intro k
      simp only [b64_value.j0]
      rw [if_neg (by simp)]
      by_cases h : c ≥ 97
      · rw [if_pos h]; congr 1; simp [show (97 : Int) ≤ c from h]
      · rw [if_neg h]; congr 1; symm; simp; omega
    have e2 : ∀ k, b64_value.j1 (k + 1) c false = b64_value.j2 k c (decide (48 ≤ c ∧ c ≤ 57)) := by
      intro k
      simp only [b64_value.j1]
      rw [if_neg (by simp)]
      by_cases h : c ≥ 48
      · rw [if_pos h]; congr 1; simp [show (48 : Int) ≤ c from h]
      · rw [if_neg h]; congr 1; symm; simp; omega
    rw [e0]
    by_cases a : 65 ≤ c ∧ c ≤ 90
    · rw [if_pos a, decide_eq_true a]
      simp only [b64_value.j0]
      rw [if_pos trivial, w1]
    · rw [if_neg a, decide_eq_false a, e1]
      by_cases a : 97 ≤ c ∧ c ≤ 122
      · rw [if_pos a, decide_eq_true a]
        simp only [b64_value.j1]
        rw [if_pos trivial, w2]
      · rw [if_neg a, decide_eq_false a, e2]
        by_cases a : 48 ≤ c ∧ c ≤ 57
        · rw [if_pos a, decide_eq_true a]
          simp only [b64_value.j2]
          rw [if_pos trivial, w3]
        · rw [if_neg a, decide_eq_false a]
          simp only [b64_value.j2]
          rw [if_neg (by simp)]
  rw [hval]
  unfold valP val
  by_cases a : 65 ≤ c ∧ c ≤ 90
  · rw [if_pos a, if_pos a, if_pos (by omega)]; simp only [Option.some.injEq, Prod.mk.injEq, and_true]; omega
  · rw [if_neg a, if_neg a]
    by_cases a : 97 ≤ c ∧ c ≤ 122
    · rw [if_pos a, if_pos a, if_pos (by omega)]; simp only [Option.some.injEq, Prod.mk.injEq, and_true]; omega
    · rw [if_neg a, if_neg a]
      by_cases a : 48 ≤ c ∧ c ≤ 57
      · rw [if_pos a, if_pos a, if_pos (by omega)]; simp only [Option.some.injEq, Prod.mk.injEq, and_true]; omega
      · rw [if_neg a, if_neg a]
        by_cases a : c = 45
        · rw [if_pos a, if_pos a]; simp
        · rw [if_neg a, if_neg a]
          by_cases a : c = 95
          · rw [if_pos a, if_pos a]; simp
          · rw [if_neg a, if_neg a]; simp

/-- What follows the text: too many bits are left over, or such as are no zeros. -/
def decFin (acc n : Int) (out : List Int) : List Int × Int :=
  if 6 ≤ n then ([], 10) else if acc % 2 ^ n.toNat = 0 then (out, 0) else ([], 10)
/-- b64.Decode from place pos on; acc, n: the bits that are at hand. -/
def decP (s : ByteArray) : Nat → Nat → Int → Int → List Int → List Int × Int
  | 0, _, acc, n, out => decFin acc n out
  | fuel + 1, pos, acc, n, out =>
    if pos < s.size then
      if 0 ≤ val ((Utf8.decode s pos).1 : Int) then
        if 2 ≤ n then decP s fuel (pos + (Utf8.decode s pos).2) (acc * 64 % 4294967296 + val ((Utf8.decode s pos).1 : Int)) (n - 2) (out ++ [(acc * 64 % 4294967296 + val ((Utf8.decode s pos).1 : Int)) / 2 ^ (n - 2).toNat % 256])
        else decP s fuel (pos + (Utf8.decode s pos).2) (acc * 64 % 4294967296 + val ((Utf8.decode s pos).1 : Int)) (n + 6) out
      else ([], 10)
    else decFin acc n out
def decS (s : ByteArray) : List Int × Int := if 16384 < s.size then ([], 3) else decP s s.size 0 0 0 []

theorem decP_end (s : ByteArray) (fuel pos : Nat) (acc n : Int) (out : List Int) (h : ¬ pos < s.size) : decP s fuel pos acc n out = decFin acc n out := by
  cases fuel with
  | zero => rfl
  | succ f => simp only [decP, if_neg h]

theorem width_pos (s : ByteArray) (pos : Nat) (h : pos < s.size) : 1 ≤ (Utf8.decode s pos).2 := by
  by_cases ha : (s[pos]'h).toNat < 128
  · rw [decode_ascii s pos h ha]
    exact Nat.le_refl _
  · exact (decode_high s pos h (by omega)).2

theorem or6 (x v : Int) (h0 : 0 ≤ x) (h1 : x < 4294967296) (v0 : 0 ≤ v) (v1 : v < 64) : Go.bits .or .u32 (x * 64 % 4294967296) v = x * 64 % 4294967296 + v :=
  bits_join .u32 32 (by decide) (fun n a b => by rw [IntKind.wrap_u32]; omega) 6 _ v (by omega) (by omega) (by omega) v0 (by omega) (by omega)

theorem R_iterAt {w : World} {k : Nat} {s : ByteArray} {p : Nat} {v : Value} {xs : List Int} (h : Kd.R (Kd.int .u8) 5 w (k + 1) (fun _ => True) v xs) : Kd.R (Kd.int .u8) 5 (w.iterAt k s p) (k + 1) (fun _ => True) v xs :=
  Kd.R_mono (Kd.R_move (Kd.R_bound h) (fun j hj => Lib.iterAt_other w k j s p (by have := hj.2.1; omega))) (fun _ _ => trivial)

def b64_Decode.f (_k : Nat) (a0 : ByteArray) : Option (List Int × Int) := some (decS a0)
theorem b64_Decode.mono : ∀ a0 k, LeO (b64_Decode.f k a0) (b64_Decode.f (k + 1) a0) := fun _ _ => LeO.refl _

set_option maxHeartbeats 4000000 in
set_option maxRecDepth 100000 in
theorem dec_long (s : ByteArray) (w : World) (h : 16384 < s.size) :
    Calls Try.prog 11 #[.string s] w fun e w' => ∃ v0_ : Value, e = .returned (.tuple #[v0_, .int .i64 3]) ∧ Kd.R (Kd.int .u8) 5 w' w.heap.size (fun _ => True) v0_ [] ∧ Below w.heap.size w w' := by
  have hb : decide ((16384 : Int) < (s.size : Int)) = true := decide_eq_true (by omega)
  go_enter Try.func11, Try.ntmps11
  go_wp2
  go_ret2
  exact ⟨_, rfl, Kd.R_nil _ _ _ _ _, Below.refl _ _⟩

set_option maxHeartbeats 4000000 in
set_option maxRecDepth 100000 in
theorem dec_short (s : ByteArray) (w : World) (h : s.size ≤ 16384) :
    Calls Try.prog 11 #[.string s] w fun e w' => ∃ v0_ : Value, e = .returned (.tuple #[v0_, .int .i64 (decS s).2]) ∧ Kd.R (Kd.int .u8) 5 w' w.heap.size (fun _ => True) v0_ (decS s).1 ∧ Below w.heap.size w w' := by
  have hb : decide ((16384 : Int) < (s.size : Int)) = false := decide_eq_false (by omega)
  have hS0 : decP s s.size 0 0 0 [] = decS s := by unfold decS; rw [if_neg (by omega)]
  have HS := Aside0.mk hS0
  clear hS0
  go_enter Try.func11, Try.ntmps11
  go_wp2
  go_loopw [4, 5, 6] (fun v4 v5 v6 wr => ∃ (pos fuel : Nat) (acc n : Int) (out : List Int), v5 = .int .u32 acc ∧ v6 = .int .i64 n ∧ wr.heap[w.heap.size]? = some (.stringIter s pos) ∧ Aside0 (Kd.R (Kd.int .u8) 5 wr (w.heap.size + 1) (fun _ => True) v4 out) ∧ Aside0 (Below w.heap.size w wr) ∧ Aside0 (decP s fuel pos acc n out = decS s) ∧ s.size ≤ pos + fuel ∧ out.length ≤ pos ∧ 0 ≤ acc ∧ acc < 4294967296 ∧ Aside0 (n = 0 ∨ n = 2 ∨ n = 4 ∨ n = 6)) (fun _ _ _ wr => s.size - wr.iterPos w.heap.size)
  case atStart => exact ⟨0, s.size, 0, 0, [], rfl, rfl, World.iter_heap w s 0, ⟨Kd.R_nil _ _ _ _ _⟩, ⟨(Below.refl _ _).alloc (Nat.le_refl _) _⟩, HS, by omega, by simp, by omega, by omega, ⟨Or.inl rfl⟩⟩
  case round =>
    obtain ⟨pos, fuel, acc, n, out, rfl, rfl, hit, HO, HB, HD, hf, hol, ha0, ha1, HN⟩ := hrel
    have hpos0 := iterPos_of hit
    by_cases hp : pos < s.size
    · have hnx : ∀ ty, (Instr.next (.pointer (some ⟨w.heap.size, 0, none⟩)) true ty).run Try.prog wr = _ := fun ty => Lib.run_next_any_at wr w.heap.size s pos ty hit hp
      have hwd := width_pos s pos hp
      obtain ⟨fuel, rfl⟩ : ∃ f', fuel = f' + 1 := ⟨fuel - 1, by omega⟩
      have hit2 := Lib.iterAt_heap wr w.heap.size s pos (pos + (Utf8.decode s pos).2) hit
      have HB2 := Aside0.mk (Lib.below_iterAt HB.out (k := w.heap.size) (Nat.le_refl _) s (pos + (Utf8.decode s pos).2))
      have HO2 := Aside0.mk (R_iterAt (k := w.heap.size) (s := s) (p := pos + (Utf8.decode s pos).2) HO.out)
      obtain ⟨W1, hW1⟩ : ∃ W1, W1 = wr.iterAt w.heap.size s (pos + (Utf8.decode s pos).2) := ⟨_, rfl⟩
      rw [← hW1] at hnx hit2 HB2 HO2
      clear hW1 hit HO HB
      have hd := HD.out
      simp only [decP, if_pos hp] at hd
      clear HD
      have hc1 := decode_le s pos
      obtain ⟨cN, hcN⟩ : ∃ c, c = (Utf8.decode s pos).1 := ⟨_, rfl⟩
      obtain ⟨q, hq⟩ : ∃ q, q = pos + (Utf8.decode s pos).2 := ⟨_, rfl⟩
      rw [← hcN] at hd hnx
      rw [← hq] at hd hit2
      rw [← hcN] at hc1
      have hqp : pos < q := by omega
      clear hcN hq hwd
      have hvf := value_f (cN : Int) (by omega) (by omega)
      by_cases hv : 0 ≤ val (cN : Int)
      · rw [if_pos hv] at hd
        have hvl := (val_lt (cN : Int)).2
        have hvp : valP (cN : Int) = (val (cN : Int), true) := by unfold valP; rw [if_pos hv]
        rw [hvp] at hvf
        obtain ⟨v, hve⟩ : ∃ v, v = val (cN : Int) := ⟨_, rfl⟩
        rw [← hve] at hd hvf hv hvl
        clear hvp hve
        have HV := Aside0.mk hvf
        clear hvf
        have hor := or6 acc v ha0 ha1 hv hvl
        have hvm : v % 4294967296 = v := by omega
        rcases HN.out with rfl | rfl | rfl | rfl
        · rw [if_neg (by omega)] at hd
          have HD := Aside0.mk hd
          clear hd HN
          go_wp2_with ((with_reducible refine gate_callee (f := 14) rfl ?_); refine goesL_ (some 21) rfl rfl Try.func14 (by kernel_rfl) rfl #[.int .i32 (cN : Int)] rfl (by (try simp only [List.map_toArray, List.map_cons, List.map_nil]); first | done | rfl) ?_; (with_reducible refine (b64_value.calls 4 _ _ _ _ HV.out).mono ?_); rintro e w' ⟨rfl, ⟨nd, rfl⟩⟩; refine ⟨_, rfl, ?_⟩)
          go_roundw
          case rel => exact ⟨q, fuel, _, _, out, rfl, rfl, hit2, ⟨Kd.R_drewN HO2.out nd⟩, ⟨pw_below_drewN HB2.out nd⟩, HD, by omega, by omega, by omega, by omega, ⟨by omega⟩⟩
          case measure => rw [iterPos_of (w := W1.drewN nd) hit2, hpos0]; omega
        · rw [if_pos (by omega)] at hd
          have HD := Aside0.mk hd
          clear hd HN
          go_wp2_with (first | ((with_reducible refine gate_callee (f := 14) rfl ?_); refine goesL_ (some 21) rfl rfl Try.func14 (by kernel_rfl) rfl #[.int .i32 (cN : Int)] rfl (by (try simp only [List.map_toArray, List.map_cons, List.map_nil]); first | done | rfl) ?_; (with_reducible refine (b64_value.calls 4 _ _ _ _ HV.out).mono ?_); rintro e w' ⟨rfl, ⟨nd, rfl⟩⟩; refine ⟨_, rfl, ?_⟩; have HO3 := Aside0.mk (Kd.R_drewN HO2.out nd); have HB3 := Aside0.mk (pw_below_drewN HB2.out nd); have hit3 : (W1.drewN nd).heap[w.heap.size]? = some (.stringIter s q) := hit2; obtain ⟨W2, hW2⟩ : ∃ W2, W2 = W1.drewN nd := ⟨_, rfl⟩; rw [← hW2] at HO3 HB3 hit3 ⊢; clear hW2 HO2 HB2 hit2) | ((with_reducible refine gate_builtin (b := .append) (xs := #[.tmp 37, .tmp 42]) rfl ?_); at_builtin; refine Kd.R_append (Kd.int .u8) (w0 := W2) (w.heap.size + 1) rfl (.tmp 37) (.tmp 42) 22 5 (.int .u8 0) 1 rfl Try.underlying22 info5 rfl (by decide) (by omega) u4 out ((acc * 64 % 4294967296 + v) % 256) [.int .u8 ((acc * 64 % 4294967296 + v) % 256)] (fun _ => True) (fun _ => False) rfl rfl ?aP (fun _ hk => hk.elim) ?aF ?aO ?aB ?aS ?aL ?_; (case aP => exact rfl); (case aB => exact Below.refl _ _); (case aF => exact (fun _ _ => trivial)); (case aO => exact HO3.out); (case aS => have := lt_of_block hit3; omega); (case aL => omega); intro v1 w1 ho hb hg hat; have hit4 : w1.heap[w.heap.size]? = some (.stringIter s q) := (hb.block _ (by omega)).trans hit3; have HO4 := Aside0.mk ho; have HB4 := Aside0.mk (HB3.out.trans (hb.mono (by omega))); clear ho hb hg hat HO3 HB3 hit3))
          go_roundw
          case rel => exact ⟨q, fuel, _, _, _, rfl, rfl, hit4, HO4, HB4, ⟨by have := HD.out; simpa using this⟩, by omega, by simp; omega, by omega, by omega, ⟨by omega⟩⟩
          case measure => rw [iterPos_of hit4, hpos0]; omega
        · rw [if_pos (by omega)] at hd
          have HD := Aside0.mk hd
          clear hd HN
          go_wp2_with (first | ((with_reducible refine gate_callee (f := 14) rfl ?_); refine goesL_ (some 21) rfl rfl Try.func14 (by kernel_rfl) rfl #[.int .i32 (cN : Int)] rfl (by (try simp only [List.map_toArray, List.map_cons, List.map_nil]); first | done | rfl) ?_; (with_reducible refine (b64_value.calls 4 _ _ _ _ HV.out).mono ?_); rintro e w' ⟨rfl, ⟨nd, rfl⟩⟩; refine ⟨_, rfl, ?_⟩; have HO3 := Aside0.mk (Kd.R_drewN HO2.out nd); have HB3 := Aside0.mk (pw_below_drewN HB2.out nd); have hit3 : (W1.drewN nd).heap[w.heap.size]? = some (.stringIter s q) := hit2; obtain ⟨W2, hW2⟩ : ∃ W2, W2 = W1.drewN nd := ⟨_, rfl⟩; rw [← hW2] at HO3 HB3 hit3 ⊢; clear hW2 HO2 HB2 hit2) | ((with_reducible refine gate_builtin (b := .append) (xs := #[.tmp 37, .tmp 42]) rfl ?_); at_builtin; refine Kd.R_append (Kd.int .u8) (w0 := W2) (w.heap.size + 1) rfl (.tmp 37) (.tmp 42) 22 5 (.int .u8 0) 1 rfl Try.underlying22 info5 rfl (by decide) (by omega) u4 out ((acc * 64 % 4294967296 + v) / 4 % 256) [.int .u8 ((acc * 64 % 4294967296 + v) / 4 % 256)] (fun _ => True) (fun _ => False) rfl rfl ?aP (fun _ hk => hk.elim) ?aF ?aO ?aB ?aS ?aL ?_; (case aP => exact rfl); (case aB => exact Below.refl _ _); (case aF => exact (fun _ _ => trivial)); (case aO => exact HO3.out); (case aS => have := lt_of_block hit3; omega); (case aL => omega); intro v1 w1 ho hb hg hat; have hit4 : w1.heap[w.heap.size]? = some (.stringIter s q) := (hb.block _ (by omega)).trans hit3; have HO4 := Aside0.mk ho; have HB4 := Aside0.mk (HB3.out.trans (hb.mono (by omega))); clear ho hb hg hat HO3 HB3 hit3))
          go_roundw
          case rel => exact ⟨q, fuel, _, _, _, rfl, rfl, hit4, HO4, HB4, HD, by omega, by simp; omega, by omega, by omega, ⟨by omega⟩⟩
          case measure => rw [iterPos_of hit4, hpos0]; omega
        · rw [if_pos (by omega)] at hd
          have HD := Aside0.mk hd
          clear hd HN
          go_wp2_with (first | ((with_reducible refine gate_callee (f := 14) rfl ?_); refine goesL_ (some 21) rfl rfl Try.func14 (by kernel_rfl) rfl #[.int .i32 (cN : Int)] rfl (by (try simp only [List.map_toArray, List.map_cons, List.map_nil]); first | done | rfl) ?_; (with_reducible refine (b64_value.calls 4 _ _ _ _ HV.out).mono ?_); rintro e w' ⟨rfl, ⟨nd, rfl⟩⟩; refine ⟨_, rfl, ?_⟩; have HO3 := Aside0.mk (Kd.R_drewN HO2.out nd); have HB3 := Aside0.mk (pw_below_drewN HB2.out nd); have hit3 : (W1.drewN nd).heap[w.heap.size]? = some (.stringIter s q) := hit2; obtain ⟨W2, hW2⟩ : ∃ W2, W2 = W1.drewN nd := ⟨_, rfl⟩; rw [← hW2] at HO3 HB3 hit3 ⊢; clear hW2 HO2 HB2 hit2) | ((with_reducible refine gate_builtin (b := .append) (xs := #[.tmp 37, .tmp 42]) rfl ?_); at_builtin; refine Kd.R_append (Kd.int .u8) (w0 := W2) (w.heap.size + 1) rfl (.tmp 37) (.tmp 42) 22 5 (.int .u8 0) 1 rfl Try.underlying22 info5 rfl (by decide) (by omega) u4 out ((acc * 64 % 4294967296 + v) / 16 % 256) [.int .u8 ((acc * 64 % 4294967296 + v) / 16 % 256)] (fun _ => True) (fun _ => False) rfl rfl ?aP (fun _ hk => hk.elim) ?aF ?aO ?aB ?aS ?aL ?_; (case aP => exact rfl); (case aB => exact Below.refl _ _); (case aF => exact (fun _ _ => trivial)); (case aO => exact HO3.out); (case aS => have := lt_of_block hit3; omega); (case aL => omega); intro v1 w1 ho hb hg hat; have hit4 : w1.heap[w.heap.size]? = some (.stringIter s q) := (hb.block _ (by omega)).trans hit3; have HO4 := Aside0.mk ho; have HB4 := Aside0.mk (HB3.out.trans (hb.mono (by omega))); clear ho hb hg hat HO3 HB3 hit3))
          go_roundw
          case rel => exact ⟨q, fuel, _, _, _, rfl, rfl, hit4, HO4, HB4, HD, by omega, by simp; omega, by omega, by omega, ⟨by omega⟩⟩
          case measure => rw [iterPos_of hit4, hpos0]; omega
      · rw [if_neg hv] at hd
        have hvp : valP (cN : Int) = (0, false) := by unfold valP; rw [if_neg hv]
        rw [hvp] at hvf
        have HV := Aside0.mk hvf
        have HD := Aside0.mk hd
        clear hvf hd hvp hv
        go_wp2_with ((with_reducible refine gate_callee (f := 14) rfl ?_); refine goesL_ (some 21) rfl rfl Try.func14 (by kernel_rfl) rfl #[.int .i32 (cN : Int)] rfl (by (try simp only [List.map_toArray, List.map_cons, List.map_nil]); first | done | rfl) ?_; (with_reducible refine (b64_value.calls 4 _ _ _ _ HV.out).mono ?_); rintro e w' ⟨rfl, ⟨nd, rfl⟩⟩; refine ⟨_, rfl, ?_⟩)
        go_ret2
        exact ⟨.slice none 0 0, by rw [← HD.out]; rfl, by rw [← HD.out]; exact Kd.R_nil _ _ _ _ _, pw_below_drewN HB2.out _⟩
    · have hnx : ∀ ty, (Instr.next (.pointer (some ⟨w.heap.size, 0, none⟩)) true ty).run Try.prog wr = _ := fun ty => Lib.run_next_end_at wr w.heap.size s pos ty hit hp
      have hd := HD.out
      rw [decP_end _ _ _ _ _ _ hp] at hd
      clear HD
      rcases HN.out with rfl | rfl | rfl | rfl
      · have hm : Go.bits .and .u32 acc 0 = 0 := by
          have := bits_mask .u32 32 (by decide) (fun n a b => by rw [IntKind.wrap_u32]; omega) 0 (by decide) acc ha0 (by omega)
          simpa using this
        have HD : Aside0 ((out, 0) = decS s) := ⟨by rw [← hd]; unfold decFin; rw [if_neg (by omega), if_pos (by simp [Int.emod_one])]⟩
        clear hd HN
        go_wp2
        go_ret2
        exact ⟨u4, by rw [← HD.out]; rfl, by rw [← HD.out]; exact Kd.R_lower HO.out (by omega), HB.out⟩
      · have hm0 : Go.bits .and .u32 acc (2 ^ 2 - 1) = acc % 2 ^ 2 := bits_mask .u32 32 (by decide) (fun n a b => by rw [IntKind.wrap_u32]; omega) 2 (by decide) acc ha0 (by omega)
        have hm : Go.bits .and .u32 acc 3 = acc % 4 := hm0
        clear hm0
        by_cases hz : acc % 4 = 0
        · have hzb : (acc % 4 != 0) = false := bne_eq_false_iff_eq.mpr hz
          have HD : Aside0 ((out, 0) = decS s) := ⟨by rw [← hd]; unfold decFin; rw [if_neg (by omega), if_pos (by exact hz)]⟩
          clear hd HN hz
          go_wp2
          go_ret2
          exact ⟨u4, by rw [← HD.out]; rfl, by rw [← HD.out]; exact Kd.R_lower HO.out (by omega), HB.out⟩
        · have hzb : (acc % 4 != 0) = true := bne_iff_ne.mpr hz
          have HD : Aside0 (([], 10) = decS s) := ⟨by rw [← hd]; unfold decFin; rw [if_neg (by omega), if_neg (by exact hz)]⟩
          clear hd HN hz
          go_wp2
          go_ret2
          exact ⟨.slice none 0 0, by rw [← HD.out]; rfl, by rw [← HD.out]; exact Kd.R_nil _ _ _ _ _, HB.out⟩
      · have hm0 : Go.bits .and .u32 acc (2 ^ 4 - 1) = acc % 2 ^ 4 := bits_mask .u32 32 (by decide) (fun n a b => by rw [IntKind.wrap_u32]; omega) 4 (by decide) acc ha0 (by omega)
        have hm : Go.bits .and .u32 acc 15 = acc % 16 := hm0
        clear hm0
        by_cases hz : acc % 16 = 0
        · have hzb : (acc % 16 != 0) = false := bne_eq_false_iff_eq.mpr hz
          have HD : Aside0 ((out, 0) = decS s) := ⟨by rw [← hd]; unfold decFin; rw [if_neg (by omega), if_pos (by exact hz)]⟩
          clear hd HN hz
          go_wp2
          go_ret2
          exact ⟨u4, by rw [← HD.out]; rfl, by rw [← HD.out]; exact Kd.R_lower HO.out (by omega), HB.out⟩
        · have hzb : (acc % 16 != 0) = true := bne_iff_ne.mpr hz
          have HD : Aside0 (([], 10) = decS s) := ⟨by rw [← hd]; unfold decFin; rw [if_neg (by omega), if_neg (by exact hz)]⟩
          clear hd HN hz
          go_wp2
          go_ret2
          exact ⟨.slice none 0 0, by rw [← HD.out]; rfl, by rw [← HD.out]; exact Kd.R_nil _ _ _ _ _, HB.out⟩
      · have HD : Aside0 (([], 10) = decS s) := ⟨by rw [← hd]; unfold decFin; rw [if_pos (by omega)]⟩
        clear hd HN
        go_wp2
        go_ret2
        exact ⟨.slice none 0 0, by rw [← HD.out]; rfl, by rw [← HD.out]; exact Kd.R_nil _ _ _ _ _, HB.out⟩

theorem b64_Decode.calls (k : Nat) (a0 : ByteArray) (r1 : List Int) (r2 : Int) (w : World) (h : b64_Decode.f k a0 = some (r1, r2)) :
    Calls Try.prog 11 #[.string a0] w fun e w' => ∃ v0_ : Value, e = .returned (.tuple #[v0_, .int .i64 r2]) ∧ Kd.R (Kd.int .u8) 5 w' w.heap.size (fun _ => True) v0_ r1 ∧ Below w.heap.size w w' := by
  have e : decS a0 = (r1, r2) := Option.some.inj h
  by_cases hb : 16384 < a0.size
  · have : ([], (3 : Int)) = (r1, r2) := by rw [← e]; unfold decS; rw [if_pos hb]
    injection this with h1 h2
    subst h1 h2
    exact dec_long a0 w hb
  · have := dec_short a0 w (by omega)
    rw [e] at this
    exact this

end Go.Proofs.Ytabdkmlindgkmaa.PAll
