/- The walk of latchkeylaw03.ShaLong. -/
import Derived.Test.YtocnkfepiknglaaEq32
namespace Go.Proofs.Ytocnkfepiknglaa.PAll
open Go.RowKit Go.Proofs.YtocnkfepiknglaaW.PrintWords Go.Proofs.YtocnkfepiknglaaW.PrintLast Go.Proofs.YtocnkfepiknglaaW.PrintMore
set_option linter.unusedVariables false
set_option linter.unusedSimpArgs false
attribute [local go_sem] max2_int min2_int max_two min_two max_three min_three max_four min_four   -- for this text's walks alone

/-- make([]byte, n), n of whatever kind. -/
theorem bytes_make {ops : Array Oper} {rest : List Oper} {o : Oper} {a : Act} {Q : Exit → Act → World → Prop} (hgd : o.guard = none) {N : Tmp} (hd : o.dst = some N) (x y : Operand) (ho : o.op = .makeSlice 22 x y) {k : IntKind} {m : Nat} (hx : a.eval x = .int k m) (hy : a.eval y = .int k m) {W : World} (hl : m ≤ 1000000)
    (h : ∀ v1 w1, Kd.R (Kd.int .u8) 5 w1 W.heap.size (fun _ => True) v1 (List.replicate m 0) → Below W.heap.size W w1 → wpList Try.prog ops Q rest (a.put o.dst v1) w1) : wpList Try.prog ops Q (o :: rest) a W := by
  obtain ⟨i0, hi, hzz⟩ := Option.map_eq_some_iff.1 infoB
  simp only [Prod.mk.injEq] at hzz
  obtain ⟨hz0, hz1, hz2⟩ := hzz
  have hr := run_make (P := Try.prog) W 22 5 i0 (.int .u8 0) Try.underlying22 hi hz0 k k (m : Int) (m : Int) (by omega) (by omega)
    (by
      have h3 : ((i0.bytes * m : Nat) : Int) ≤ 281474976710656 := by rw [hz2, Nat.one_mul]; omega
      rwa [Int.natCast_mul] at h3) (by omega)
  simp only [Int.toNat_natCast] at hr
  rw [hz1] at hr
  refine Kd.R_lit (Kd.int .u8) (w0 := W) W.heap.size 5 hgd hd (xs := List.replicate m (0 : Int)) (inner := (madeCells (Value.int .u8 0).cells (m * 1)).toList) (okp := fun _ => True) (ok := fun _ => True) ?_ (Kd.reps_made (R := (Kd.int .u8).M W W.heap.size (fun _ => True)) (z := .int .u8 0) (size := 1) (z0 := (0 : Int)) rfl (by decide) rfl m) (fun _ hk => hk) trivial (Below.refl _ _) (Nat.le_refl _) (by simp; omega) ?_
  · simp [execOp, ho, hx, hy, hr]
  · intro v1 w1 h1 h2 h3 h4
    exact h v1 w1 h1 h2
theorem byteL_take {xs : List Int} (h : ByteL xs) (n : Nat) : ByteL (xs.take n) := fun x hx => h x (List.mem_of_mem_take hx)
theorem byteL_drop {xs : List Int} (h : ByteL xs) (n : Nat) : ByteL (xs.drop n) := fun x hx => h x (List.mem_of_mem_drop hx)
theorem byteL_rep (n : Nat) : ByteL (List.replicate n 0) := fun x hx => by
  have := (List.mem_replicate.1 hx).2
  subst this
  decide

theorem cut_block {A : Option Addr} {k n : Nat} (h : ∀ a, A = some a → a.block < n) : ∀ a, A.map (·.add k) = some a → a.block < n := fun a ha => by
  cases A with
  | none => cases ha
  | some x =>
    injection ha with ha
    have : a.block = x.block := by rw [← ha]; unfold Addr.add; split <;> rfl
    rw [this]
    exact h x rfl
/-- A cut put in. -/
theorem put_cut {w : World} {base g c lo hi : Nat} {xs : List Int} {A : Option Addr} (h : HashIn w base g (xs.take lo)) (hC : Kd.C (Kd.int .u8) w A xs.length xs) (hab : ∀ a, A = some a → a.block < base) (hby : ByteL xs) (hl : xs.length ≤ 1000000) (h1 : lo ≤ hi) (h2 : hi ≤ xs.length) (h3 : lo < c) (h4 : xs.length ≤ c) :
    Calls Try.prog 12 #[.pointer (some ⟨g, 0, none⟩), .slice (A.map (·.add lo)) (hi - lo) (c - lo)] w fun e w' => e = .returned (.tuple #[]) ∧ HashIn w' base g (xs.take hi) ∧ Below base w w' := by
  have hm := Kd.C_mid (c := c) hC h1 h2 h4
  rw [if_neg (by omega), show lo * (Kd.int .u8).sz = lo from Nat.mul_one lo] at hm
  have hlen : ((xs.take hi).drop lo).length = hi - lo := by rw [List.length_drop, List.length_take]; omega
  have hg := h.base_le
  have hp := put_in (c - lo) h hm (fun a ha => by have := cut_block hab a ha; omega) (byteL_drop (byteL_take hby hi) lo) (by rw [hlen, List.length_take]; omega)
  rw [hlen] at hp
  have he : xs.take lo ++ (xs.take hi).drop lo = xs.take hi := by
    have := List.take_append_drop lo (xs.take hi)
    rw [List.take_take, Nat.min_eq_left h1] at this
    exact this
  rw [he] at hp
  exact hp

set_option maxHeartbeats 8000000 in
set_option maxRecDepth 100000 in
theorem shaLong_walk (n c size : Nat) (hn : n < 65536) (hc : c < 256) (hsz : size < 256) (w : World) : Calls Try.prog 5 #[.int .u16 n, .int .u8 c, .int .u8 size] w fun e w' => e = .returned (.bool true) ∧ Below w.heap.size w w' := by
  go_enter Try.func5, Try.ntmps5
  go_upto_region 3 with (first | (go_at_call 8; (with_reducible refine (awake_calls _).mono ?_); rintro e w1 ⟨rfl, hb1⟩; have HB1 := Aside0.mk hb1; clear hb1))
  go_wp2_with (first | ((with_reducible refine gate_dst (N := 15) rfl ?_); refine bytes_make rfl (N := 15) rfl _ _ rfl rfl rfl ?h1 ?_; (case h1 => omega); intro v2 w2 ho hb; have HO := Aside0.mk ho; have HB2 := Aside0.mk hb; obtain ⟨A2, c2, rfl, hlc, hC⟩ := Kd.R_reads ho; clear hb hC))
  rw [List.length_replicate] at ho hlc
  clear HO
  have HO := Aside0.mk ho
  clear ho
  go_loopg [18] n (fun gg s18 wr => ∃ (i : Nat) (xs : List Int), i ≤ n ∧ n - i ≤ gg ∧ s18 = .int .i64 i ∧ xs.length = n ∧ Aside0 (ByteL xs) ∧ Aside0 (Kd.R (Kd.int .u8) 5 wr w1.heap.size (fun _ => True) (.slice A2 n c2) xs) ∧ Aside0 (Below w1.heap.size w1 wr))
  case atStart => exact ⟨0, _, by omega, by omega, rfl, List.length_replicate, ⟨byteL_rep n⟩, HO, HB2⟩
  case round =>
    clear HO HB2
    obtain ⟨i, xs, hi, hgg, rfl, hxl, HBY, HO, HB2⟩ := hrel
    by_cases hlt : i < n
    · have hltz : (i : Int) < (n : Int) := by omega
      obtain ⟨g, c', he, h1, h2, cells, h3⟩ := Kd.R_form HO.out (by omega)
      injection he with he1 he2 he3
      subst he1 he3
      obtain ⟨hc1, hc2⟩ := Kd.R_celln (0 : Int) HO.out (i : Int) (by omega) (by omega)
      rw [Int.toNat_natCast] at hc1 hc2
      have HM := Aside0.mk (show n - (i + 1) < gk by omega)
      have HXL := Aside0.mk hxl
      clear hxl he2 h3 hgg
      go_wp2
      go_roundg (n - (i + 1))
      case measure => exact HM.out
      case rel =>
        have hp := (Kd.R_putg HO.out (i : Int) (((c : Int) + (i : Int)) % 256)).1
        rw [Int.toNat_natCast] at hp
        exact ⟨i + 1, _, hlt, Nat.le_refl _, by push_cast; rfl, by rw [List.length_set]; exact HXL.out, ⟨byteL_set HBY.out i ⟨by omega, by omega⟩⟩, ⟨hp⟩, ⟨below_set HB2.out h1⟩⟩
    · have hin : i = n := by omega
      subst hin
      have HXL := Aside0.mk hxl
      have hal : ∀ a, A2 = some a → w1.heap.size ≤ a.block ∧ a.block < wr.heap.size := fun a ha => by
        have h1 := Kd.R_base HO.out a.block (by rw [ha]; rfl)
        have h2 := Kd.R_bound HO.out
        have h3 := h2.1 a.block (by rw [ha]; rfl)
        exact ⟨h1, h3.2.2.1⟩
      have hC : Kd.C (Kd.int .u8) wr A2 xs.length xs := by
        exact (Kd.R_reads' HO.out).2.2
      have HC := Aside0.mk hC
      have HAL := Aside0.mk hal
      have HLC := Aside0.mk hlc
      have hs1 := HB1.out.size
      have hs2 := HB2.out.size
      clear hC hal hgg hlt hi HO hxl
      go_upto_region 12 with (first | (go_at_call 11; (with_reducible refine (new_in _).mono ?_); rintro e w4 ⟨g, rfl, hi4, hb4⟩; have HI4 := Aside0.mk hi4; have HB4 := Aside0.mk hb4; clear hb4 hi4))
      obtain ⟨i5, hi5, hzz⟩ := Option.map_eq_some_iff.1 infoB
      simp only [Prod.mk.injEq] at hzz
      have hz1 := hzz.2.1
      clear hzz
      have HI4' : Aside0 (HashIn w4 wr.heap.size g (xs.take 0)) := HI4
      have hg4 := HI4.out.base_le
      go_loopg [11] i (fun gg s11 wq => ∃ (at_ : Nat), at_ ≤ i + 256 ∧ i - at_ ≤ gg ∧ s11 = .int .i64 at_ ∧ Aside0 (HashIn wq wr.heap.size g (xs.take at_)) ∧ Aside0 (Below wr.heap.size wr wq))
      case atStart => exact ⟨0, by omega, by omega, rfl, HI4', HB4⟩
      case round =>
        clear HI4 HI4' HB4
        obtain ⟨at_, hat, hgg, rfl, HI, HBQ⟩ := hrel
        by_cases hlt : at_ < i
        · have hltz : (at_ : Int) < (i : Int) := by omega
          obtain ⟨m, hm1, hm2, hm3⟩ : ∃ m : Nat, at_ ≤ m ∧ m ≤ i ∧ m = min (at_ + (1 + size)) i := ⟨_, by omega, by omega, rfl⟩
          have hcut := cut_mid (P := Try.prog) 22 5 .i64 .i64 Try.underlying22 hi5 1 hz1 A2 i c2 (at_ : Int) (m : Int) (by omega) (by omega) (by omega) hlc
          rw [Int.toNat_natCast, Int.toNat_natCast] at hcut
          have HM := Aside0.mk (show i - (at_ + (1 + size)) < gk by omega)
          have HM3 := Aside0.mk hm3
          clear hgg hm3
          have HPUT := Aside0.mk (put_cut (hi := m) HI.out (Kd.C_below HC.out HBQ.out) (fun a ha => (HAL.out a ha).2) HBY.out (by have := HXL.out; omega) hm1 (by have := HXL.out; omega) (show at_ < c2 by omega) (by have := HXL.out; omega))
          have hbq := HBQ.out
          have HBQ' := Aside0.mk hbq
          clear HI hbq HBQ
          by_cases hcase : at_ + (1 + size) ≤ i
          · have hmz : (m : Int) = (at_ : Int) + (1 + (size : Int)) := by have := HM3.out; omega
            rw [hmz] at hcut
            go_wp2_with (first | (go_at_call 12; refine HPUT.out.mono ?_; rintro e w5 ⟨rfl, hi5, hb5⟩; have HI5 := Aside0.mk hi5; have HB5 := Aside0.mk hb5; clear hi5 hb5))
            go_roundg (i - (at_ + (1 + size)))
            case measure => exact HM.out
            case rel =>
              have ht : xs.take m = xs.take (at_ + (1 + size)) := by
                have h1 := HM3.out
                have h2 := HXL.out
                rcases Nat.le_total (at_ + (1 + size)) i with h | h
                · rw [h1, Nat.min_eq_left h]
                · rw [h1, Nat.min_eq_right h, List.take_of_length_le (by omega), List.take_of_length_le (by omega)]
              exact ⟨at_ + (1 + size), by omega, Nat.le_refl _, by push_cast; rfl, ⟨by rw [← ht]; exact HI5.out⟩, ⟨HBQ'.out.trans HB5.out⟩⟩
          · have hmz : (m : Int) = (i : Int) := by have := HM3.out; omega
            rw [hmz] at hcut
            go_wp2_with (first | (go_at_call 12; refine HPUT.out.mono ?_; rintro e w5 ⟨rfl, hi5, hb5⟩; have HI5 := Aside0.mk hi5; have HB5 := Aside0.mk hb5; clear hi5 hb5))
            go_roundg (i - (at_ + (1 + size)))
            case measure => exact HM.out
            case rel =>
              have ht : xs.take m = xs.take (at_ + (1 + size)) := by
                have h1 := HM3.out
                have h2 := HXL.out
                rcases Nat.le_total (at_ + (1 + size)) i with h | h
                · rw [h1, Nat.min_eq_left h]
                · rw [h1, Nat.min_eq_right h, List.take_of_length_le (by omega), List.take_of_length_le (by omega)]
              exact ⟨at_ + (1 + size), by omega, Nat.le_refl _, by push_cast; rfl, ⟨by rw [← ht]; exact HI5.out⟩, ⟨HBQ'.out.trans HB5.out⟩⟩
        · have hih := HI.out
          rw [List.take_of_length_le (by have := HXL.out; omega)] at hih
          have HI' := Aside0.mk hih
          have hq1 := HBQ.out.size
          have hrs := HB2.out.size
          have HOF := Aside0.mk (fun (W : World) (hb : Below wr.heap.size wr W) => of_calls (w := W) (b := xs) c2 (Kd.C_below (Kd.C_below HC.out HBQ.out) hb) (fun a ha => by have := (HAL.out a ha).2; have := hb.size; omega) HBY.out (by have := HXL.out; omega))
          have he1 := eq_hash xs
          have hxl := HXL.out
          rw [hxl] at HOF
          clear hih HI hgg
          go_wp2_with (first | (go_at_call 13; (with_reducible refine (sum_in HI'.out).mono ?_); rintro e w5 ⟨rfl, hi5, hb5⟩; have HB5 := Aside0.mk hb5; clear hb5 hi5) | (go_at_call 9; refine (HOF.out _ HB5.out).mono ?_; rintro e w6 ⟨rfl, hb6⟩; have HB6 := Aside0.mk hb6; clear hb6))
          go_ret
          have s5 := HB5.out.size
          exact ⟨rfl, ((HB1.out.trans (HB2.out.mono hs1)).trans (HBQ.out.mono (by omega))).trans ((HB5.out.mono (by omega)).trans (HB6.out.mono (by omega)))⟩
theorem wf_bounds {k : IntKind} {n : Int} (h : (Lit.int k n).wf = true) : k.min ≤ n ∧ n ≤ k.max := by
  have := Bool.and_eq_true_iff.1 h
  exact ⟨of_decide_eq_true this.1, of_decide_eq_true this.2⟩
theorem shaLong_int (a0 a1 a2 : Int) (w : World) (w0 : (Lit.int .u16 a0).wf = true) (w1 : (Lit.int .u8 a1).wf = true) (w2 : (Lit.int .u8 a2).wf = true) : Calls Try.prog 5 #[.int .u16 a0, .int .u8 a1, .int .u8 a2] w fun e w' => e = .returned (.bool true) ∧ Below w.heap.size w w' := by
  have b0 : 0 ≤ a0 ∧ a0 ≤ 65535 := wf_bounds w0
  have b1 : 0 ≤ a1 ∧ a1 ≤ 255 := wf_bounds w1
  have b2 : 0 ≤ a2 ∧ a2 ≤ 255 := wf_bounds w2
  obtain ⟨n, rfl⟩ := Int.eq_ofNat_of_zero_le b0.1
  obtain ⟨c, rfl⟩ := Int.eq_ofNat_of_zero_le b1.1
  obtain ⟨s, rfl⟩ := Int.eq_ofNat_of_zero_le b2.1
  exact shaLong_walk n c s (by omega) (by omega) (by omega) w
end Go.Proofs.Ytocnkfepiknglaa.PAll
