-- PRINTED BY print.sh 35421559b90ae4d0a3588c463048766b98c2df88dd9212a6774a882060cdf62d: not written by this session
import Derived.Test.YtphbpcmncelkhaaPSessPlaysx0
import Derived.Test.YtphbpcmncelkhaaPSessPlaysx1
namespace Go.Proofs.Ytphbpcmncelkhaa.PSessPlays
open Go.RowKit Go.Proofs.YtphbpcmncelkhaaW.PrintWords Go.Proofs.YtphbpcmncelkhaaW.PrintLast Go.Proofs.YtphbpcmncelkhaaW.PrintMore
attribute [local go_sem] max2_int min2_int max_two min_two max_three min_three max_four min_four   -- for this text's walks alone
set_option linter.unusedVariables false
set_option linter.unusedSimpArgs false

/-! ### latchkeylaw20_session: function 12 -/
def latchkeylaw20_session.f (k : Nat) (a0_0 : Int) (a0_1 : Int) (a0_2 : Int) (a0_3 : Int) (a0_4 : Int) (a0_5 : Bool) (a0_6 : Bool) (a0_7 : Int) : Option (Int × ByteArray × List Int × Int × Bool × Bool) := if 64 ≤ 281474976710656 then (if 65 ≤ 281474976710656 then ((some (([(⟨#[117]⟩ : ByteArray), (⟨#[118]⟩ : ByteArray), (⟨#[]⟩ : ByteArray), strOfNums (List.replicate 64 0), strOfNums (List.replicate 65 0)] : List ByteArray) : List ByteArray)).bind fun y123 => ((some (([16, 64, 15, 65, 20, 0] : List Int) : List Int)).bind fun y126 => (if a0_5 = true then (if 0 ≤ (Int.tmod a0_3 6) then (if (Int.tmod a0_3 6) < (y126.length : Int) then (if 0 ≤ (wrap64 (Int.tmod a0_1 5)) then (if (wrap64 (Int.tmod a0_1 5)) < (y123.length : Int) then ((latchkeyhand18_Draw.f k (Int.tmod a0_2 12) (rd y126 (Int.tmod a0_3 6))).bind fun t131 => (some (a0_4, rdOf ByteArray.empty y123 (wrap64 (Int.tmod a0_1 5)), t131, a0_7, a0_6, !a0_6))) else (none)) else (none)) else (none)) else (none)) else (if 0 < (y123.length : Int) then ((latchkeyhand18_Draw.f k (Int.tmod a0_2 12) 20).bind fun t135 => (some (a0_4, rdOf ByteArray.empty y123 0, t135, a0_7, a0_6, !a0_6))) else (none))))) else (none)) else (none)
theorem latchkeylaw20_session.mono : ∀ a0 a1 a2 a3 a4 a5 a6 a7 k, LeO (latchkeylaw20_session.f k a0 a1 a2 a3 a4 a5 a6 a7) (latchkeylaw20_session.f (k + 1) a0 a1 a2 a3 a4 a5 a6 a7) := by
  intro a0 a1 a2 a3 a4 a5 a6 a7 k
  unfold latchkeylaw20_session.f
  repeat' first
      | (with_reducible exact latchkeyhand18_Draw.mono _ _ _)
      | (with_reducible exact LeO.refl _)
      | (with_reducible exact LeO.none _)
      | (with_reducible refine LeO.ite ?_ ?_)
      | (with_reducible refine LeO.bind ?_ (fun _ => ?_))
      | exact latchkeyhand18_Draw.mono _ _ _
      | exact LeO.none _
      | refine LeO.ite ?_ ?_
      | refine LeO.bind ?_ (fun _ => ?_)
def latchkeylaw20_session.T5 : Bool × List (List Nat × List Nat) := (true, [([], []), ([0], [0]), ([1], [1]), ([2], [2]), ([], []), ([], []), ([5], [5]), ([6], [6]), ([4, 7], [4, 7]), ([8], [8]), ([3, 0, 1, 2, 3], [3]), ([9, 10, 0, 1, 2, 3, 4, 5, 6, 7, 8, 9, 10], [9])])
def latchkeylaw20_session.B5 : List Nat := [0, 1, 3, 7, 0, 0, 32, 96, 240, 496, 15, 2047]
theorem latchkeylaw20_session.tab5 : rtab .any (opsOf Try.f12 5) = latchkeylaw20_session.T5 := by kernel_rfl
theorem latchkeylaw20_session.bits5 : waitsOk latchkeylaw20_session.T5.2 latchkeylaw20_session.B5 = true := by kernel_rfl
def latchkeylaw20_session.T6 : Bool × List (List Nat × List Nat) := (true, [([], []), ([0], [0]), ([], []), ([], []), ([2, 3], [2, 3]), ([4], [4]), ([], []), ([6], [6]), ([7], [7]), ([], []), ([8, 9], [8, 9]), ([], []), ([11], [11]), ([], []), ([13], [13]), ([], []), ([15], [15]), ([16], [16]), ([1, 5, 10, 12, 14, 17], [1, 5, 10, 12, 14, 17]), ([18, 10, 0, 1, 2, 3, 4, 5, 6, 7, 8, 9, 10, 11, 12, 13, 14, 15, 16, 17, 18], [18])])
def latchkeylaw20_session.B6 : List Nat := [0, 1, 0, 0, 12, 28, 0, 64, 192, 0, 960, 0, 2048, 0, 8192, 0, 32768, 98304, 262143, 524287]
theorem latchkeylaw20_session.tab6 : rtab .any (opsOf Try.f12 6) = latchkeylaw20_session.T6 := by kernel_rfl
theorem latchkeylaw20_session.bits6 : waitsOk latchkeylaw20_session.T6.2 latchkeylaw20_session.B6 = true := by kernel_rfl
set_option maxHeartbeats 8000000 in
set_option maxRecDepth 100000 in
theorem latchkeylaw20_session.calls (k : Nat) (a0_0 : Int) (a0_1 : Int) (a0_2 : Int) (a0_3 : Int) (a0_4 : Int) (a0_5 : Bool) (a0_6 : Bool) (a0_7 : Int) (r1 : Int) (r2 : ByteArray) (r3 : List Int) (r4 : Int) (r5 : Bool) (r6 : Bool) (w : World) (h : latchkeylaw20_session.f k a0_0 a0_1 a0_2 a0_3 a0_4 a0_5 a0_6 a0_7 = some (r1, r2, r3, r4, r5, r6)) :
    Calls Try.prog 12 #[.agg #[.int .u8 a0_0, .int .u8 a0_1, .int .u8 a0_2, .int .u8 a0_3, .int .u64 a0_4, .bool a0_5, .bool a0_6, .int .u64 a0_7]] w fun e w' => ∃ v2_ : Value, e = .returned (.agg #[.int .u64 r1, .string r2, v2_, .int .u64 r4, .bool r5, .bool r6]) ∧ Kd.R (Kd.int .u8) 5 w' w.heap.size (fun _ => True) v2_ r3 ∧ Below w.heap.size w w' := by
  have hu47 := Try.underlying47
  have hu34 := Try.underlying34
  have HB := Aside0.mk (Below.refl w.heap.size w)
  have H : (if 64 ≤ 281474976710656 then (if 65 ≤ 281474976710656 then ((some (([(⟨#[117]⟩ : ByteArray), (⟨#[118]⟩ : ByteArray), (⟨#[]⟩ : ByteArray), strOfNums (List.replicate 64 0), strOfNums (List.replicate 65 0)] : List ByteArray) : List ByteArray)).bind fun y123 => ((some (([16, 64, 15, 65, 20, 0] : List Int) : List Int)).bind fun y126 => (if a0_5 = true then (if 0 ≤ (Int.tmod a0_3 6) then (if (Int.tmod a0_3 6) < (y126.length : Int) then (if 0 ≤ (wrap64 (Int.tmod a0_1 5)) then (if (wrap64 (Int.tmod a0_1 5)) < (y123.length : Int) then ((latchkeyhand18_Draw.f k (Int.tmod a0_2 12) (rd y126 (Int.tmod a0_3 6))).bind fun t131 => (some (a0_4, rdOf ByteArray.empty y123 (wrap64 (Int.tmod a0_1 5)), t131, a0_7, a0_6, !a0_6))) else (none)) else (none)) else (none)) else (none)) else (if 0 < (y123.length : Int) then ((latchkeyhand18_Draw.f k (Int.tmod a0_2 12) 20).bind fun t135 => (some (a0_4, rdOf ByteArray.empty y123 0, t135, a0_7, a0_6, !a0_6))) else (none))))) else (none)) else (none)) = some (r1, r2, r3, r4, r5, r6) := h
  clear h
  by_cases c2 : 64 ≤ 281474976710656
  · rw [if_pos c2] at H
    have c2b0 := eq_true c2
    have c2b1 : decide (64 ≤ 281474976710656) = true := decide_eq_true c2
    clear c2
    obtain ⟨y117, hy117⟩ : ∃ y_ : List Int, y_ = (List.replicate 64 0) := ⟨_, rfl⟩
    replace H : (if 65 ≤ 281474976710656 then ((some (([(⟨#[117]⟩ : ByteArray), (⟨#[118]⟩ : ByteArray), (⟨#[]⟩ : ByteArray), strOfNums y117, strOfNums (List.replicate 65 0)] : List ByteArray) : List ByteArray)).bind fun y123 => ((some (([16, 64, 15, 65, 20, 0] : List Int) : List Int)).bind fun y126 => (if a0_5 = true then (if 0 ≤ (Int.tmod a0_3 6) then (if (Int.tmod a0_3 6) < (y126.length : Int) then (if 0 ≤ (wrap64 (Int.tmod a0_1 5)) then (if (wrap64 (Int.tmod a0_1 5)) < (y123.length : Int) then ((latchkeyhand18_Draw.f k (Int.tmod a0_2 12) (rd y126 (Int.tmod a0_3 6))).bind fun t131 => (some (a0_4, rdOf ByteArray.empty y123 (wrap64 (Int.tmod a0_1 5)), t131, a0_7, a0_6, !a0_6))) else (none)) else (none)) else (none)) else (none)) else (if 0 < (y123.length : Int) then ((latchkeyhand18_Draw.f k (Int.tmod a0_2 12) 20).bind fun t135 => (some (a0_4, rdOf ByteArray.empty y123 0, t135, a0_7, a0_6, !a0_6))) else (none))))) else (none)) = some (r1, r2, r3, r4, r5, r6) := by first | (rw [hy117]; with_reducible exact H) | (have H2_ := (Option.bind_some _ _).symm.trans H; rw [hy117]; with_reducible exact H2_) | (have H2_ := (Option.bind_some _ _).symm.trans H; with_reducible exact H2_) | with_reducible exact H | (rw [hy117]; exact H) | exact H
    have Ny117 := Aside0.mk hy117
    clear hy117
    by_cases c3 : 65 ≤ 281474976710656
    · rw [if_pos c3] at H
      have c3b0 := eq_true c3
      have c3b1 : decide (65 ≤ 281474976710656) = true := decide_eq_true c3
      clear c3
      obtain ⟨y120, hy120⟩ : ∃ y_ : List Int, y_ = (List.replicate 65 0) := ⟨_, rfl⟩
      replace H : ((some (([(⟨#[117]⟩ : ByteArray), (⟨#[118]⟩ : ByteArray), (⟨#[]⟩ : ByteArray), strOfNums y117, strOfNums y120] : List ByteArray) : List ByteArray)).bind fun y123 => ((some (([16, 64, 15, 65, 20, 0] : List Int) : List Int)).bind fun y126 => (if a0_5 = true then (if 0 ≤ (Int.tmod a0_3 6) then (if (Int.tmod a0_3 6) < (y126.length : Int) then (if 0 ≤ (wrap64 (Int.tmod a0_1 5)) then (if (wrap64 (Int.tmod a0_1 5)) < (y123.length : Int) then ((latchkeyhand18_Draw.f k (Int.tmod a0_2 12) (rd y126 (Int.tmod a0_3 6))).bind fun t131 => (some (a0_4, rdOf ByteArray.empty y123 (wrap64 (Int.tmod a0_1 5)), t131, a0_7, a0_6, !a0_6))) else (none)) else (none)) else (none)) else (none)) else (if 0 < (y123.length : Int) then ((latchkeyhand18_Draw.f k (Int.tmod a0_2 12) 20).bind fun t135 => (some (a0_4, rdOf ByteArray.empty y123 0, t135, a0_7, a0_6, !a0_6))) else (none))))) = some (r1, r2, r3, r4, r5, r6) := by first | (rw [hy120]; with_reducible exact H) | (have H2_ := (Option.bind_some _ _).symm.trans H; rw [hy120]; with_reducible exact H2_) | (have H2_ := (Option.bind_some _ _).symm.trans H; with_reducible exact H2_) | with_reducible exact H | (rw [hy120]; exact H) | exact H
      have Ny120 := Aside0.mk hy120
      clear hy120
      obtain ⟨y123, hy123⟩ : ∃ y_ : List ByteArray, y_ = (([(⟨#[117]⟩ : ByteArray), (⟨#[118]⟩ : ByteArray), (⟨#[]⟩ : ByteArray), strOfNums y117, strOfNums y120] : List ByteArray)) := ⟨_, rfl⟩
      replace H : ((some (([16, 64, 15, 65, 20, 0] : List Int) : List Int)).bind fun y126 => (if a0_5 = true then (if 0 ≤ (Int.tmod a0_3 6) then (if (Int.tmod a0_3 6) < (y126.length : Int) then (if 0 ≤ (wrap64 (Int.tmod a0_1 5)) then (if (wrap64 (Int.tmod a0_1 5)) < (y123.length : Int) then ((latchkeyhand18_Draw.f k (Int.tmod a0_2 12) (rd y126 (Int.tmod a0_3 6))).bind fun t131 => (some (a0_4, rdOf ByteArray.empty y123 (wrap64 (Int.tmod a0_1 5)), t131, a0_7, a0_6, !a0_6))) else (none)) else (none)) else (none)) else (none)) else (if 0 < (y123.length : Int) then ((latchkeyhand18_Draw.f k (Int.tmod a0_2 12) 20).bind fun t135 => (some (a0_4, rdOf ByteArray.empty y123 0, t135, a0_7, a0_6, !a0_6))) else (none)))) = some (r1, r2, r3, r4, r5, r6) := by first | (rw [hy123]; with_reducible exact H) | (have H2_ := (Option.bind_some _ _).symm.trans H; rw [hy123]; with_reducible exact H2_) | (have H2_ := (Option.bind_some _ _).symm.trans H; with_reducible exact H2_) | with_reducible exact H | (rw [hy123]; exact H) | exact H
      have Ny123 := Aside0.mk hy123
      clear hy123
      obtain ⟨y126, hy126⟩ : ∃ y_ : List Int, y_ = (([16, 64, 15, 65, 20, 0] : List Int)) := ⟨_, rfl⟩
      replace H : (if a0_5 = true then (if 0 ≤ (Int.tmod a0_3 6) then (if (Int.tmod a0_3 6) < (y126.length : Int) then (if 0 ≤ (wrap64 (Int.tmod a0_1 5)) then (if (wrap64 (Int.tmod a0_1 5)) < (y123.length : Int) then ((latchkeyhand18_Draw.f k (Int.tmod a0_2 12) (rd y126 (Int.tmod a0_3 6))).bind fun t131 => (some (a0_4, rdOf ByteArray.empty y123 (wrap64 (Int.tmod a0_1 5)), t131, a0_7, a0_6, !a0_6))) else (none)) else (none)) else (none)) else (none)) else (if 0 < (y123.length : Int) then ((latchkeyhand18_Draw.f k (Int.tmod a0_2 12) 20).bind fun t135 => (some (a0_4, rdOf ByteArray.empty y123 0, t135, a0_7, a0_6, !a0_6))) else (none))) = some (r1, r2, r3, r4, r5, r6) := by first | (rw [hy126]; with_reducible exact H) | (have H2_ := (Option.bind_some _ _).symm.trans H; rw [hy126]; with_reducible exact H2_) | (have H2_ := (Option.bind_some _ _).symm.trans H; with_reducible exact H2_) | with_reducible exact H | (rw [hy126]; exact H) | exact H
      have Ny126 := Aside0.mk hy126
      clear hy126
      by_cases c4 : a0_5 = true
      · subst c4
        have H1 : (if 0 ≤ (Int.tmod a0_3 6) then (if (Int.tmod a0_3 6) < (y126.length : Int) then (if 0 ≤ (wrap64 (Int.tmod a0_1 5)) then (if (wrap64 (Int.tmod a0_1 5)) < (y123.length : Int) then ((latchkeyhand18_Draw.f k (Int.tmod a0_2 12) (rd y126 (Int.tmod a0_3 6))).bind fun t131 => (some (a0_4, rdOf ByteArray.empty y123 (wrap64 (Int.tmod a0_1 5)), t131, a0_7, a0_6, !a0_6))) else (none)) else (none)) else (none)) else (none)) = some (r1, r2, r3, r4, r5, r6) := by rw [if_pos rfl] at H; exact H
        clear H
        have H := H1
        clear H1
        obtain ⟨ji5, hji5⟩ : ∃ j_ : Int, (Int.tmod a0_3 6) = j_ := ⟨_, rfl⟩
        replace H : (if 0 ≤ (ji5) then (if (ji5) < (y126.length : Int) then (if 0 ≤ (wrap64 (Int.tmod a0_1 5)) then (if (wrap64 (Int.tmod a0_1 5)) < (y123.length : Int) then ((latchkeyhand18_Draw.f k (Int.tmod a0_2 12) (rd y126 (ji5))).bind fun t131 => (some (a0_4, rdOf ByteArray.empty y123 (wrap64 (Int.tmod a0_1 5)), t131, a0_7, a0_6, !a0_6))) else (none)) else (none)) else (none)) else (none)) = some (r1, r2, r3, r4, r5, r6) := by first | (rw [hji5] at H; exact H) | (simp only [hji5] at H ⊢; exact H)
        by_cases c6 : 0 ≤ (ji5)
        · rw [if_pos c6] at H
          have c6b0 : decide (0 ≤ (ji5)) = true := decide_eq_true c6
          clear c6
          by_cases c7 : (ji5) < (y126.length : Int)
          · rw [if_pos c7] at H
            have c7b0 : decide ((ji5) < (y126.length : Int)) = true := decide_eq_true c7
            clear c7
            obtain ⟨ji8, hji8⟩ : ∃ j_ : Int, (wrap64 (Int.tmod a0_1 5)) = j_ := ⟨_, rfl⟩
            replace H : (if 0 ≤ (ji8) then (if (ji8) < (y123.length : Int) then ((latchkeyhand18_Draw.f k (Int.tmod a0_2 12) (rd y126 (ji5))).bind fun t131 => (some (a0_4, rdOf ByteArray.empty y123 (ji8), t131, a0_7, a0_6, !a0_6))) else (none)) else (none)) = some (r1, r2, r3, r4, r5, r6) := by first | (rw [hji8] at H; exact H) | (simp only [hji8] at H ⊢; exact H)
            have hji8w : (IntKind.i64.wrap (Int.tmod a0_1 5)) = ji8 := (i64_w _).trans hji8
            by_cases c9 : 0 ≤ (ji8)
            · rw [if_pos c9] at H
              have c9b0 : decide (0 ≤ (ji8)) = true := decide_eq_true c9
              clear c9
              by_cases c10 : (ji8) < (y123.length : Int)
              · rw [if_pos c10] at H
                have c10b0 : decide ((ji8) < (y123.length : Int)) = true := decide_eq_true c10
                clear c10
                replace H := Option.bind_eq_some_iff.mp H
                obtain ⟨t131, A110, H⟩ := H
                replace H : (some (a0_4, rdOf ByteArray.empty y123 (ji8), t131, a0_7, a0_6, !a0_6)) = some (r1, r2, r3, r4, r5, r6) := H
                have A11 := Aside0.mk A110
                clear A110
                simp only [Option.some.injEq, Prod.mk.injEq] at H
                obtain ⟨rfl, rfl, rfl, rfl, rfl, rfl⟩ := H
                go_enter Try.func12, Try.ntmps12
                try go_wp2_with (first | ((with_reducible refine gate_dst (N := 1) rfl ?_); refine box_event ?hg (N := 1) ?hd (cs := #[.int .u8 a0_0, .int .u8 a0_1, .int .u8 a0_2, .int .u8 a0_3, .int .u64 a0_4, .bool true, .bool a0_6, .int .u64 a0_7]) (t := 47) ?hr ?_; (case hd => rfl); (case hg => rfl); (case hr => first | (go_simp; done) | (go_simp; rfl)); intro gb115 hg w12 hbox hb; have n0_ := Aside0.mk (below_step (by repeat (first | (with_reducible first | exact HB.out | apply below_alloc | apply pw_below_drewN | apply below_drew1) | exact HB.out)) hb); have n1_ := Aside0.mk (hbox); have n2_ := Aside0.mk ((by rw [hg]; exact (below_size (by repeat (first | (with_reducible first | exact HB.out | apply below_alloc | apply pw_below_drewN | apply below_drew1) | exact HB.out))) : w.heap.size ≤ gb115)); have n3_ := Aside0.mk ((by rw [hg]; exact (below_size (by repeat (first | (with_reducible first | exact HB.out | apply below_alloc | apply pw_below_drewN | apply below_drew1) | exact HB.out))) : w.heap.size ≤ gb115)); clear HB; have HB := n0_; have BK115 := n1_; have GW115 := n2_; have GE115 := n3_; clear n0_ n1_ n2_ n3_; clear hb hbox hg) | ((with_reducible refine gate_dst (N := 2) rfl ?_); refine box_event ?hg (N := 2) ?hd (cs := #[.int .u64 0, .string (⟨#[]⟩ : ByteArray), .slice none 0 0, .int .u64 0, .bool false, .bool false]) (t := 34) ?hr ?_; (case hd => rfl); (case hg => rfl); (case hr => first | (go_simp; done) | (go_simp; rfl)); intro gb116 hg w13 hbox hb; have n0_ := Aside0.mk (blk_below (g := gb115) (o := .cells #[.int .u8 a0_0, .int .u8 a0_1, .int .u8 a0_2, .int .u8 a0_3, .int .u64 a0_4, .bool true, .bool a0_6, .int .u64 a0_7] 47 (0, 0)) (by (with_reducible repeat (first | refine blk_drewN ?_ _ | refine blk_drew ?_ | refine blk_alloc ?_ _)); exact BK115.out) hb); have n1_ := Aside0.mk (below_step (by repeat (first | (with_reducible first | exact HB.out | apply below_alloc | apply pw_below_drewN | apply below_drew1 | refine below_set ?_ GE115.out) | exact HB.out)) hb); have n2_ := Aside0.mk (hbox); have n3_ := Aside0.mk ((by rw [hg]; exact (below_size (by repeat (first | (with_reducible first | exact HB.out | apply below_alloc | apply pw_below_drewN | apply below_drew1 | refine below_set ?_ GE115.out) | exact HB.out))) : w.heap.size ≤ gb116)); have n4_ := Aside0.mk ((by rw [hg]; exact (below_size (by repeat (first | (with_reducible first | exact HB.out | apply below_alloc | apply pw_below_drewN | apply below_drew1 | refine below_set ?_ GE115.out) | exact HB.out))) : w.heap.size ≤ gb116)); have n5_ := Aside0.mk ((by rw [hg]; exact Nat.ne_of_lt (blk_lt (g := gb115) (o := .cells #[.int .u8 a0_0, .int .u8 a0_1, .int .u8 a0_2, .int .u8 a0_3, .int .u64 a0_4, .bool true, .bool a0_6, .int .u64 a0_7] 47 (0, 0)) (by (with_reducible repeat (first | refine blk_drewN ?_ _ | refine blk_drew ?_ | refine blk_alloc ?_ _)); exact BK115.out)) : gb115 ≠ gb116)); have n6_ := Aside0.mk ((by rw [hg]; exact Nat.ne_of_gt (blk_lt (g := gb115) (o := .cells #[.int .u8 a0_0, .int .u8 a0_1, .int .u8 a0_2, .int .u8 a0_3, .int .u64 a0_4, .bool true, .bool a0_6, .int .u64 a0_7] 47 (0, 0)) (by (with_reducible repeat (first | refine blk_drewN ?_ _ | refine blk_drew ?_ | refine blk_alloc ?_ _)); exact BK115.out)) : gb116 ≠ gb115)); clear BK115; clear HB; have BK115 := n0_; have HB := n1_; have BK116 := n2_; have GW116 := n3_; have GE116 := n4_; have NB115_116 := n5_; have NB116_115 := n6_; clear n0_ n1_ n2_ n3_ n4_ n5_ n6_; clear hb hbox hg))
                have n0_ := Aside0.mk (blk_drew BK115.out)
                have n1_ := Aside0.mk (blk_drew BK116.out)
                have n2_ := Aside0.mk (below_drew1 HB.out)
                clear BK115
                clear BK116
                clear HB
                have BK115 := n0_
                have BK116 := n1_
                have HB := n2_
                clear n0_ n1_ n2_
                refine start_ (n := 6) (S := fun w' => True) (ds := []) #[false, false, false, false, false, false] (by kernel_rfl) rfl rfl trivial (fun hHeld => ?_)
                generalize w13.drew = w14 at BK115 BK116 HB hHeld ⊢
                refine join_ (σ := Value × Value) 2 #[true, true, true, true, false, false] (fun s_ => [(7, s_.1), (8, .string (strOfNums y117)), (9, s_.2), (10, .string (strOfNums y120))]) (fun s_ w' => (Kd.R (Kd.int .u8) 5 w' w.heap.size (fun k_ => some k_ ≠ (s_.2 : Value).ownBlock) s_.1 y117) ∧ (Kd.R (Kd.int .u8) 5 w' w.heap.size (fun k_ => some k_ ≠ (s_.1 : Value).ownBlock) s_.2 y120) ∧ (w'.heap[gb115]? = some (.cells #[.int .u8 a0_0, .int .u8 a0_1, .int .u8 a0_2, .int .u8 a0_3, .int .u64 a0_4, .bool true, .bool a0_6, .int .u64 a0_7] 47 (0, 0))) ∧ (w'.heap[gb116]? = some (.cells #[.int .u64 0, .string (⟨#[]⟩ : ByteArray), .slice none 0 0, .int .u64 0, .bool false, .bool false] 34 (0, 0))) ∧ (Below w.heap.size w w')) ?_ ?_
                rotate_left
                · intro hJ0_1_2_3
                  refine join_ (σ := Value × Value) 3 #[true, true, true, false, false, false] (fun s_ => [(7, s_.1), (8, .string (strOfNums y117)), (9, s_.2)]) (fun s_ w' => (Kd.R (Kd.int .u8) 5 w' w.heap.size (fun k_ => some k_ ≠ (s_.2 : Value).ownBlock) s_.1 y117) ∧ (Kd.R (Kd.int .u8) 5 w' w.heap.size (fun k_ => some k_ ≠ (s_.1 : Value).ownBlock) s_.2 y120) ∧ (w'.heap[gb115]? = some (.cells #[.int .u8 a0_0, .int .u8 a0_1, .int .u8 a0_2, .int .u8 a0_3, .int .u64 a0_4, .bool true, .bool a0_6, .int .u64 a0_7] 47 (0, 0))) ∧ (w'.heap[gb116]? = some (.cells #[.int .u64 0, .string (⟨#[]⟩ : ByteArray), .slice none 0 0, .int .u64 0, .bool false, .bool false] 34 (0, 0))) ∧ (Below w.heap.size w w')) ?_ ?_
                  rotate_left
                  · intro hJ0_1_2
                    refine join_ (σ := Value × Value) 3 #[true, false, true, true, false, false] (fun s_ => [(7, s_.1), (9, s_.2), (10, .string (strOfNums y120))]) (fun s_ w' => (Kd.R (Kd.int .u8) 5 w' w.heap.size (fun k_ => some k_ ≠ (s_.2 : Value).ownBlock) s_.1 y117) ∧ (Kd.R (Kd.int .u8) 5 w' w.heap.size (fun k_ => some k_ ≠ (s_.1 : Value).ownBlock) s_.2 y120) ∧ (w'.heap[gb115]? = some (.cells #[.int .u8 a0_0, .int .u8 a0_1, .int .u8 a0_2, .int .u8 a0_3, .int .u64 a0_4, .bool true, .bool a0_6, .int .u64 a0_7] 47 (0, 0))) ∧ (w'.heap[gb116]? = some (.cells #[.int .u64 0, .string (⟨#[]⟩ : ByteArray), .slice none 0 0, .int .u64 0, .bool false, .bool false] 34 (0, 0))) ∧ (Below w.heap.size w w')) ?_ ?_
                    rotate_left
                    · intro hJ0_2_3
                      refine join_ (σ := Value) 4 #[true, true, false, false, false, false] (fun s_ => [(7, s_), (8, .string (strOfNums y117))]) (fun s_ w' => (Kd.R (Kd.int .u8) 5 w' w.heap.size (fun _ => True) s_ y117) ∧ (w'.heap[gb115]? = some (.cells #[.int .u8 a0_0, .int .u8 a0_1, .int .u8 a0_2, .int .u8 a0_3, .int .u64 a0_4, .bool true, .bool a0_6, .int .u64 a0_7] 47 (0, 0))) ∧ (w'.heap[gb116]? = some (.cells #[.int .u64 0, .string (⟨#[]⟩ : ByteArray), .slice none 0 0, .int .u64 0, .bool false, .bool false] 34 (0, 0))) ∧ (Below w.heap.size w w')) ?_ ?_
                      rotate_left
                      · intro hJ0_1
                        refine join_ (σ := Value × Value) 4 #[true, false, true, false, false, false] (fun s_ => [(7, s_.1), (9, s_.2)]) (fun s_ w' => (Kd.R (Kd.int .u8) 5 w' w.heap.size (fun k_ => some k_ ≠ (s_.2 : Value).ownBlock) s_.1 y117) ∧ (Kd.R (Kd.int .u8) 5 w' w.heap.size (fun k_ => some k_ ≠ (s_.1 : Value).ownBlock) s_.2 y120) ∧ (w'.heap[gb115]? = some (.cells #[.int .u8 a0_0, .int .u8 a0_1, .int .u8 a0_2, .int .u8 a0_3, .int .u64 a0_4, .bool true, .bool a0_6, .int .u64 a0_7] 47 (0, 0))) ∧ (w'.heap[gb116]? = some (.cells #[.int .u64 0, .string (⟨#[]⟩ : ByteArray), .slice none 0 0, .int .u64 0, .bool false, .bool false] 34 (0, 0))) ∧ (Below w.heap.size w w')) ?_ ?_
                        rotate_left
                        · intro hJ0_2
                          refine join_ (σ := Value) 4 #[false, false, true, true, false, false] (fun s_ => [(9, s_), (10, .string (strOfNums y120))]) (fun s_ w' => (Kd.R (Kd.int .u8) 5 w' w.heap.size (fun _ => True) s_ y120) ∧ (w'.heap[gb115]? = some (.cells #[.int .u8 a0_0, .int .u8 a0_1, .int .u8 a0_2, .int .u8 a0_3, .int .u64 a0_4, .bool true, .bool a0_6, .int .u64 a0_7] 47 (0, 0))) ∧ (w'.heap[gb116]? = some (.cells #[.int .u64 0, .string (⟨#[]⟩ : ByteArray), .slice none 0 0, .int .u64 0, .bool false, .bool false] 34 (0, 0))) ∧ (Below w.heap.size w w')) ?_ ?_
                          rotate_left
                          · intro hJ2_3
                            refine join_ (σ := Value) 5 #[true, false, false, false, false, false] (fun s_ => [(7, s_)]) (fun s_ w' => (Kd.R (Kd.int .u8) 5 w' w.heap.size (fun _ => True) s_ y117) ∧ (w'.heap[gb115]? = some (.cells #[.int .u8 a0_0, .int .u8 a0_1, .int .u8 a0_2, .int .u8 a0_3, .int .u64 a0_4, .bool true, .bool a0_6, .int .u64 a0_7] 47 (0, 0))) ∧ (w'.heap[gb116]? = some (.cells #[.int .u64 0, .string (⟨#[]⟩ : ByteArray), .slice none 0 0, .int .u64 0, .bool false, .bool false] 34 (0, 0))) ∧ (Below w.heap.size w w')) ?_ ?_
                            rotate_left
                            · intro hJ0
                              refine join_ (σ := Value) 5 #[false, false, true, false, false, false] (fun s_ => [(9, s_)]) (fun s_ w' => (Kd.R (Kd.int .u8) 5 w' w.heap.size (fun _ => True) s_ y120) ∧ (w'.heap[gb115]? = some (.cells #[.int .u8 a0_0, .int .u8 a0_1, .int .u8 a0_2, .int .u8 a0_3, .int .u64 a0_4, .bool true, .bool a0_6, .int .u64 a0_7] 47 (0, 0))) ∧ (w'.heap[gb116]? = some (.cells #[.int .u64 0, .string (⟨#[]⟩ : ByteArray), .slice none 0 0, .int .u64 0, .bool false, .bool false] 34 (0, 0))) ∧ (Below w.heap.size w w')) ?_ ?_
                              rotate_left
                              · intro hJ2
                                refine two_ (i := 0) (j := 2) (Ni := some 7) (Nj := some 9) #[true, false, false, false, false, false] #[false, false, true, false, false, false] rfl rfl rfl rfl (by kernel_rfl) (by decide) (by decide) (fun K hK => ?_) (fun K hK => ?_)
                                · skip
                                  refine Kd.R_make_step (Kd.int .u8) _ 5 (by rfl) (N := 7) rfl 22 _ _ rfl 64 rfl rfl Try.underlying22 (.int .u8 0) 1 info5 rfl (by decide) (by omega) 0 (ok := fun _ => True) (okp := fun _ => True) rfl (fun _ hk => hk) trivial (by omega) (by omega) (Below.refl _ _) (Nat.le_refl _) ?_
                                  intro v118 w15 ho16 hb hg_ hnew_
                                  clear hg_ hnew_
                                  (first | rw [← Ny117.out] at ho16 | (simp only [Int.reduceToNat] at ho16; rw [← Ny117.out] at ho16))
                                  have n0_ := Aside0.mk (Kd.R_lower ho16 (below_size (by repeat (first | (with_reducible first | exact HB.out | apply below_alloc | apply pw_below_drewN | apply below_drew1 | refine below_set ?_ GE115.out | refine below_set ?_ GE116.out) | exact HB.out))))
                                  have n1_ := Aside0.mk (blk_below (g := gb115) (o := .cells #[.int .u8 a0_0, .int .u8 a0_1, .int .u8 a0_2, .int .u8 a0_3, .int .u64 a0_4, .bool true, .bool a0_6, .int .u64 a0_7] 47 (0, 0)) (by (with_reducible repeat (first | refine blk_drewN ?_ _ | refine blk_drew ?_ | refine blk_alloc ?_ _)); exact BK115.out) hb)
                                  have n2_ := Aside0.mk (blk_below (g := gb116) (o := .cells #[.int .u64 0, .string (⟨#[]⟩ : ByteArray), .slice none 0 0, .int .u64 0, .bool false, .bool false] 34 (0, 0)) (by (with_reducible repeat (first | refine blk_drewN ?_ _ | refine blk_drew ?_ | refine blk_alloc ?_ _)); exact BK116.out) hb)
                                  have n3_ := Aside0.mk (below_step (by repeat (first | (with_reducible first | exact HB.out | apply below_alloc | apply pw_below_drewN | apply below_drew1 | refine below_set ?_ GE115.out | refine below_set ?_ GE116.out) | exact HB.out)) hb)
                                  clear BK115
                                  clear BK116
                                  clear HB
                                  have HO119 := n0_
                                  have BK115 := n1_
                                  have BK116 := n2_
                                  have HB := n3_
                                  clear n0_ n1_ n2_ n3_
                                  clear hb ho16
                                  refine hK.out _ _ trivial (fun hHeld => ?_)
                                  clear hK K
                                  refine norm_ (a' := ?_) ?_ ?_
                                  rotate_left
                                  · show Act.put _ (some 7) _ = _
                                    simp only [Act.put, List.setIfInBounds_toArray, List.set_cons_zero, List.set_cons_succ, i64_w, i32_w]
                                    rfl
                                  exact norm_ (by first | (simp only [putAll, Act.put, List.setIfInBounds_toArray, List.set_cons_zero, List.set_cons_succ]; done) | (simp only [putAll, Act.put, List.setIfInBounds_toArray, List.set_cons_zero, List.set_cons_succ]; rfl)) (hJ0 (v118) _ ⟨(by (with_reducible repeat (first | apply Kd.R_alloc | apply Kd.R_drewN | apply Kd.R_drew)); exact HO119.out), (by (with_reducible repeat (first | refine blk_drewN ?_ _ | refine blk_drew ?_ | refine blk_alloc ?_ _)); exact BK115.out), (by (with_reducible repeat (first | refine blk_drewN ?_ _ | refine blk_drew ?_ | refine blk_alloc ?_ _)); exact BK116.out), (by repeat (first | (with_reducible first | exact HB.out | apply below_alloc | apply pw_below_drewN | apply below_drew1 | refine below_set ?_ GE115.out | refine below_set ?_ GE116.out) | exact HB.out))⟩)
                                · skip
                                  refine Kd.R_make_step (Kd.int .u8) _ 5 (by rfl) (N := 9) rfl 22 _ _ rfl 65 rfl rfl Try.underlying22 (.int .u8 0) 1 info5 rfl (by decide) (by omega) 0 (ok := fun _ => True) (okp := fun _ => True) rfl (fun _ hk => hk) trivial (by omega) (by omega) (Below.refl _ _) (Nat.le_refl _) ?_
                                  intro v121 w15 ho16 hb hg_ hnew_
                                  clear hg_ hnew_
                                  (first | rw [← Ny120.out] at ho16 | (simp only [Int.reduceToNat] at ho16; rw [← Ny120.out] at ho16))
                                  have n0_ := Aside0.mk (Kd.R_lower ho16 (below_size (by repeat (first | (with_reducible first | exact HB.out | apply below_alloc | apply pw_below_drewN | apply below_drew1 | refine below_set ?_ GE115.out | refine below_set ?_ GE116.out) | exact HB.out))))
                                  have n1_ := Aside0.mk (blk_below (g := gb115) (o := .cells #[.int .u8 a0_0, .int .u8 a0_1, .int .u8 a0_2, .int .u8 a0_3, .int .u64 a0_4, .bool true, .bool a0_6, .int .u64 a0_7] 47 (0, 0)) (by (with_reducible repeat (first | refine blk_drewN ?_ _ | refine blk_drew ?_ | refine blk_alloc ?_ _)); exact BK115.out) hb)
                                  have n2_ := Aside0.mk (blk_below (g := gb116) (o := .cells #[.int .u64 0, .string (⟨#[]⟩ : ByteArray), .slice none 0 0, .int .u64 0, .bool false, .bool false] 34 (0, 0)) (by (with_reducible repeat (first | refine blk_drewN ?_ _ | refine blk_drew ?_ | refine blk_alloc ?_ _)); exact BK116.out) hb)
                                  have n3_ := Aside0.mk (below_step (by repeat (first | (with_reducible first | exact HB.out | apply below_alloc | apply pw_below_drewN | apply below_drew1 | refine below_set ?_ GE115.out | refine below_set ?_ GE116.out) | exact HB.out)) hb)
                                  clear BK115
                                  clear BK116
                                  clear HB
                                  have HO122 := n0_
                                  have BK115 := n1_
                                  have BK116 := n2_
                                  have HB := n3_
                                  clear n0_ n1_ n2_ n3_
                                  clear hb ho16
                                  refine hK.out _ _ trivial (fun hHeld => ?_)
                                  clear hK K
                                  refine norm_ (a' := ?_) ?_ ?_
                                  rotate_left
                                  · show Act.put _ (some 9) _ = _
                                    simp only [Act.put, List.setIfInBounds_toArray, List.set_cons_zero, List.set_cons_succ, i64_w, i32_w]
                                    rfl
                                  exact norm_ (by first | (simp only [putAll, Act.put, List.setIfInBounds_toArray, List.set_cons_zero, List.set_cons_succ]; done) | (simp only [putAll, Act.put, List.setIfInBounds_toArray, List.set_cons_zero, List.set_cons_succ]; rfl)) (hJ2 (v121) _ ⟨(by (with_reducible repeat (first | apply Kd.R_alloc | apply Kd.R_drewN | apply Kd.R_drew)); exact HO122.out), (by (with_reducible repeat (first | refine blk_drewN ?_ _ | refine blk_drew ?_ | refine blk_alloc ?_ _)); exact BK115.out), (by (with_reducible repeat (first | refine blk_drewN ?_ _ | refine blk_drew ?_ | refine blk_alloc ?_ _)); exact BK116.out), (by repeat (first | (with_reducible first | exact HB.out | apply below_alloc | apply pw_below_drewN | apply below_drew1 | refine below_set ?_ GE115.out | refine below_set ?_ GE116.out) | exact HB.out))⟩)
                              · skip
                                rintro v121 w17 ⟨h0_, h1_, h2_, h3_⟩
                                have n0_ : Aside0 (Kd.R (Kd.int .u8) 5 w17 w.heap.size (fun _ => True) v121 y120) := ⟨h0_⟩
                                have n1_ : Aside0 (w17.heap[gb115]? = some (.cells #[.int .u8 a0_0, .int .u8 a0_1, .int .u8 a0_2, .int .u8 a0_3, .int .u64 a0_4, .bool true, .bool a0_6, .int .u64 a0_7] 47 (0, 0))) := ⟨h1_⟩
                                have n2_ : Aside0 (w17.heap[gb116]? = some (.cells #[.int .u64 0, .string (⟨#[]⟩ : ByteArray), .slice none 0 0, .int .u64 0, .bool false, .bool false] 34 (0, 0))) := ⟨h2_⟩
                                have n3_ : Aside0 (Below w.heap.size w w17) := ⟨h3_⟩
                                clear BK115
                                clear BK116
                                clear HB
                                clear h0_ h1_ h2_ h3_
                                have HO122 := n0_
                                have BK115 := n1_
                                have BK116 := n2_
                                have HB := n3_
                                clear n0_ n1_ n2_ n3_
                                have hHeld := trivial
                                refine norm_ (a' := ?_) ?_ ?_
                                rotate_left
                                · simp only [putAll, Act.put, List.setIfInBounds_toArray, List.set_cons_zero, List.set_cons_succ]
                                  rfl
                                refine two_ (i := 0) (j := 3) (Ni := some 7) (Nj := some 10) #[true, false, true, false, false, false] #[false, false, true, true, false, false] rfl rfl rfl rfl (by kernel_rfl) (by decide) (by decide) (fun K hK => ?_) (fun K hK => ?_)
                                · skip
                                  refine Kd.R_make_step (Kd.int .u8) _ 5 (by rfl) (N := 7) rfl 22 _ _ rfl 64 rfl rfl Try.underlying22 (.int .u8 0) 1 info5 rfl (by decide) (by omega) 0 (ok := fun _ => True) (okp := fun _ => True) rfl (fun _ hk => hk) trivial (by omega) (by omega) (Below.refl _ _) (Nat.le_refl _) ?_
                                  intro v118 w18 ho19 hb hg_ hnew_
                                  clear hg_ hnew_
                                  (first | rw [← Ny117.out] at ho19 | (simp only [Int.reduceToNat] at ho19; rw [← Ny117.out] at ho19))
                                  have n0_ := Aside0.mk (Kd.R_elder' (by (with_reducible repeat (first | apply Kd.R_alloc | apply Kd.R_drewN | apply Kd.R_drew)); exact HO122.out) (Kd.R_base ho19) hb)
                                  have n1_ := Aside0.mk (Kd.R_lower (Kd.R_new' ho19 (Kd.R_lt (by (with_reducible repeat (first | apply Kd.R_alloc | apply Kd.R_drewN | apply Kd.R_drew)); exact HO122.out))) (below_size (by repeat (first | (with_reducible first | exact HB.out | apply below_alloc | apply pw_below_drewN | apply below_drew1 | refine below_set ?_ GE115.out | refine below_set ?_ GE116.out) | exact HB.out))))
                                  have n2_ := Aside0.mk (blk_below (g := gb115) (o := .cells #[.int .u8 a0_0, .int .u8 a0_1, .int .u8 a0_2, .int .u8 a0_3, .int .u64 a0_4, .bool true, .bool a0_6, .int .u64 a0_7] 47 (0, 0)) (by (with_reducible repeat (first | refine blk_drewN ?_ _ | refine blk_drew ?_ | refine blk_alloc ?_ _)); exact BK115.out) hb)
                                  have n3_ := Aside0.mk (blk_below (g := gb116) (o := .cells #[.int .u64 0, .string (⟨#[]⟩ : ByteArray), .slice none 0 0, .int .u64 0, .bool false, .bool false] 34 (0, 0)) (by (with_reducible repeat (first | refine blk_drewN ?_ _ | refine blk_drew ?_ | refine blk_alloc ?_ _)); exact BK116.out) hb)
                                  have n4_ := Aside0.mk (below_step (by repeat (first | (with_reducible first | exact HB.out | apply below_alloc | apply pw_below_drewN | apply below_drew1 | refine below_set ?_ GE115.out | refine below_set ?_ GE116.out) | exact HB.out)) hb)
                                  clear HO122
                                  clear BK115
                                  clear BK116
                                  clear HB
                                  have HO122 := n0_
                                  have HO119 := n1_
                                  have BK115 := n2_
                                  have BK116 := n3_
                                  have HB := n4_
                                  clear n0_ n1_ n2_ n3_ n4_
                                  clear hb ho19
                                  refine hK.out _ _ trivial (fun hHeld => ?_)
                                  clear hK K
                                  refine norm_ (a' := ?_) ?_ ?_
                                  rotate_left
                                  · show Act.put _ (some 7) _ = _
                                    simp only [Act.put, List.setIfInBounds_toArray, List.set_cons_zero, List.set_cons_succ, i64_w, i32_w]
                                    rfl
                                  exact norm_ (by first | (simp only [putAll, Act.put, List.setIfInBounds_toArray, List.set_cons_zero, List.set_cons_succ]; done) | (simp only [putAll, Act.put, List.setIfInBounds_toArray, List.set_cons_zero, List.set_cons_succ]; rfl)) (hJ0_2 (v118, v121) _ ⟨(by (with_reducible repeat (first | apply Kd.R_alloc | apply Kd.R_drewN | apply Kd.R_drew)); exact Kd.R_mono HO119.out (fun _ hk => hk.2)), (by (with_reducible repeat (first | apply Kd.R_alloc | apply Kd.R_drewN | apply Kd.R_drew)); exact Kd.R_mono HO122.out (fun _ hk => hk.2)), (by (with_reducible repeat (first | refine blk_drewN ?_ _ | refine blk_drew ?_ | refine blk_alloc ?_ _)); exact BK115.out), (by (with_reducible repeat (first | refine blk_drewN ?_ _ | refine blk_drew ?_ | refine blk_alloc ?_ _)); exact BK116.out), (by repeat (first | (with_reducible first | exact HB.out | apply below_alloc | apply pw_below_drewN | apply below_drew1 | refine below_set ?_ GE115.out | refine below_set ?_ GE116.out) | exact HB.out))⟩)
                                · skip
                                  have hcv18 := own_string (P := Try.prog) Try.underlying22 Try.underlying5 Try.underlying9 (Kd.own_of_R HO122.out)
                                  refine value_ (w1 := ?_) (v := ?_) (by rfl) rfl ?_ ?_
                                  rotate_left 2
                                  · go_simp
                                    constructor
                                    · rfl
                                    · rfl
                                  clear hcv18
                                  refine hK.out _ _ trivial (fun hHeld => ?_)
                                  clear hK K
                                  refine norm_ (a' := ?_) ?_ ?_
                                  rotate_left
                                  · show Act.put _ (some 10) _ = _
                                    simp only [Act.put, List.setIfInBounds_toArray, List.set_cons_zero, List.set_cons_succ, i64_w, i32_w]
                                    rfl
                                  exact norm_ (by first | (simp only [putAll, Act.put, List.setIfInBounds_toArray, List.set_cons_zero, List.set_cons_succ]; done) | (simp only [putAll, Act.put, List.setIfInBounds_toArray, List.set_cons_zero, List.set_cons_succ]; rfl)) (hJ2_3 (v121) _ ⟨(by (with_reducible repeat (first | apply Kd.R_alloc | apply Kd.R_drewN | apply Kd.R_drew)); exact HO122.out), (by (with_reducible repeat (first | refine blk_drewN ?_ _ | refine blk_drew ?_ | refine blk_alloc ?_ _)); exact BK115.out), (by (with_reducible repeat (first | refine blk_drewN ?_ _ | refine blk_drew ?_ | refine blk_alloc ?_ _)); exact BK116.out), (by repeat (first | (with_reducible first | exact HB.out | apply below_alloc | apply pw_below_drewN | apply below_drew1 | refine below_set ?_ GE115.out | refine below_set ?_ GE116.out) | exact HB.out))⟩)
                            · skip
                              rintro v118 w17 ⟨h0_, h1_, h2_, h3_⟩
                              have n0_ : Aside0 (Kd.R (Kd.int .u8) 5 w17 w.heap.size (fun _ => True) v118 y117) := ⟨h0_⟩
                              have n1_ : Aside0 (w17.heap[gb115]? = some (.cells #[.int .u8 a0_0, .int .u8 a0_1, .int .u8 a0_2, .int .u8 a0_3, .int .u64 a0_4, .bool true, .bool a0_6, .int .u64 a0_7] 47 (0, 0))) := ⟨h1_⟩
                              have n2_ : Aside0 (w17.heap[gb116]? = some (.cells #[.int .u64 0, .string (⟨#[]⟩ : ByteArray), .slice none 0 0, .int .u64 0, .bool false, .bool false] 34 (0, 0))) := ⟨h2_⟩
                              have n3_ : Aside0 (Below w.heap.size w w17) := ⟨h3_⟩
                              clear BK115
                              clear BK116
                              clear HB
                              clear h0_ h1_ h2_ h3_
                              have HO119 := n0_
                              have BK115 := n1_
                              have BK116 := n2_
                              have HB := n3_
                              clear n0_ n1_ n2_ n3_
                              have hHeld := trivial
                              refine norm_ (a' := ?_) ?_ ?_
                              rotate_left
                              · simp only [putAll, Act.put, List.setIfInBounds_toArray, List.set_cons_zero, List.set_cons_succ]
                                rfl
                              refine two_ (i := 1) (j := 2) (Ni := some 8) (Nj := some 9) #[true, true, false, false, false, false] #[true, false, true, false, false, false] rfl rfl rfl rfl (by kernel_rfl) (by decide) (by decide) (fun K hK => ?_) (fun K hK => ?_)
                              · skip
                                have hcv18 := own_string (P := Try.prog) Try.underlying22 Try.underlying5 Try.underlying9 (Kd.own_of_R HO119.out)
                                refine value_ (w1 := ?_) (v := ?_) (by rfl) rfl ?_ ?_
                                rotate_left 2
                                · go_simp
                                  constructor
                                  · rfl
                                  · rfl
                                clear hcv18
                                refine hK.out _ _ trivial (fun hHeld => ?_)
                                clear hK K
                                refine norm_ (a' := ?_) ?_ ?_
                                rotate_left
                                · show Act.put _ (some 8) _ = _
                                  simp only [Act.put, List.setIfInBounds_toArray, List.set_cons_zero, List.set_cons_succ, i64_w, i32_w]
                                  rfl
                                exact norm_ (by first | (simp only [putAll, Act.put, List.setIfInBounds_toArray, List.set_cons_zero, List.set_cons_succ]; done) | (simp only [putAll, Act.put, List.setIfInBounds_toArray, List.set_cons_zero, List.set_cons_succ]; rfl)) (hJ0_1 (v118) _ ⟨(by (with_reducible repeat (first | apply Kd.R_alloc | apply Kd.R_drewN | apply Kd.R_drew)); exact HO119.out), (by (with_reducible repeat (first | refine blk_drewN ?_ _ | refine blk_drew ?_ | refine blk_alloc ?_ _)); exact BK115.out), (by (with_reducible repeat (first | refine blk_drewN ?_ _ | refine blk_drew ?_ | refine blk_alloc ?_ _)); exact BK116.out), (by repeat (first | (with_reducible first | exact HB.out | apply below_alloc | apply pw_below_drewN | apply below_drew1 | refine below_set ?_ GE115.out | refine below_set ?_ GE116.out) | exact HB.out))⟩)
                              · skip
                                refine Kd.R_make_step (Kd.int .u8) _ 5 (by rfl) (N := 9) rfl 22 _ _ rfl 65 rfl rfl Try.underlying22 (.int .u8 0) 1 info5 rfl (by decide) (by omega) 0 (ok := fun _ => True) (okp := fun _ => True) rfl (fun _ hk => hk) trivial (by omega) (by omega) (Below.refl _ _) (Nat.le_refl _) ?_
                                intro v121 w18 ho19 hb hg_ hnew_
                                clear hg_ hnew_
                                (first | rw [← Ny120.out] at ho19 | (simp only [Int.reduceToNat] at ho19; rw [← Ny120.out] at ho19))
                                have n0_ := Aside0.mk (Kd.R_elder' (by (with_reducible repeat (first | apply Kd.R_alloc | apply Kd.R_drewN | apply Kd.R_drew)); exact HO119.out) (Kd.R_base ho19) hb)
                                have n1_ := Aside0.mk (Kd.R_lower (Kd.R_new' ho19 (Kd.R_lt (by (with_reducible repeat (first | apply Kd.R_alloc | apply Kd.R_drewN | apply Kd.R_drew)); exact HO119.out))) (below_size (by repeat (first | (with_reducible first | exact HB.out | apply below_alloc | apply pw_below_drewN | apply below_drew1 | refine below_set ?_ GE115.out | refine below_set ?_ GE116.out) | exact HB.out))))
                                have n2_ := Aside0.mk (blk_below (g := gb115) (o := .cells #[.int .u8 a0_0, .int .u8 a0_1, .int .u8 a0_2, .int .u8 a0_3, .int .u64 a0_4, .bool true, .bool a0_6, .int .u64 a0_7] 47 (0, 0)) (by (with_reducible repeat (first | refine blk_drewN ?_ _ | refine blk_drew ?_ | refine blk_alloc ?_ _)); exact BK115.out) hb)
                                have n3_ := Aside0.mk (blk_below (g := gb116) (o := .cells #[.int .u64 0, .string (⟨#[]⟩ : ByteArray), .slice none 0 0, .int .u64 0, .bool false, .bool false] 34 (0, 0)) (by (with_reducible repeat (first | refine blk_drewN ?_ _ | refine blk_drew ?_ | refine blk_alloc ?_ _)); exact BK116.out) hb)
                                have n4_ := Aside0.mk (below_step (by repeat (first | (with_reducible first | exact HB.out | apply below_alloc | apply pw_below_drewN | apply below_drew1 | refine below_set ?_ GE115.out | refine below_set ?_ GE116.out) | exact HB.out)) hb)
                                clear HO119
                                clear BK115
                                clear BK116
                                clear HB
                                have HO119 := n0_
                                have HO122 := n1_
                                have BK115 := n2_
                                have BK116 := n3_
                                have HB := n4_
                                clear n0_ n1_ n2_ n3_ n4_
                                clear hb ho19
                                refine hK.out _ _ trivial (fun hHeld => ?_)
                                clear hK K
                                refine norm_ (a' := ?_) ?_ ?_
                                rotate_left
                                · show Act.put _ (some 9) _ = _
                                  simp only [Act.put, List.setIfInBounds_toArray, List.set_cons_zero, List.set_cons_succ, i64_w, i32_w]
                                  rfl
                                exact norm_ (by first | (simp only [putAll, Act.put, List.setIfInBounds_toArray, List.set_cons_zero, List.set_cons_succ]; done) | (simp only [putAll, Act.put, List.setIfInBounds_toArray, List.set_cons_zero, List.set_cons_succ]; rfl)) (hJ0_2 (v118, v121) _ ⟨(by (with_reducible repeat (first | apply Kd.R_alloc | apply Kd.R_drewN | apply Kd.R_drew)); exact Kd.R_mono HO119.out (fun _ hk => hk.2)), (by (with_reducible repeat (first | apply Kd.R_alloc | apply Kd.R_drewN | apply Kd.R_drew)); exact Kd.R_mono HO122.out (fun _ hk => hk.2)), (by (with_reducible repeat (first | refine blk_drewN ?_ _ | refine blk_drew ?_ | refine blk_alloc ?_ _)); exact BK115.out), (by (with_reducible repeat (first | refine blk_drewN ?_ _ | refine blk_drew ?_ | refine blk_alloc ?_ _)); exact BK116.out), (by repeat (first | (with_reducible first | exact HB.out | apply below_alloc | apply pw_below_drewN | apply below_drew1 | refine below_set ?_ GE115.out | refine below_set ?_ GE116.out) | exact HB.out))⟩)
                          · skip
                            rintro v121 w18 ⟨h0_, h1_, h2_, h3_⟩
                            have n0_ : Aside0 (Kd.R (Kd.int .u8) 5 w18 w.heap.size (fun _ => True) v121 y120) := ⟨h0_⟩
                            have n1_ : Aside0 (w18.heap[gb115]? = some (.cells #[.int .u8 a0_0, .int .u8 a0_1, .int .u8 a0_2, .int .u8 a0_3, .int .u64 a0_4, .bool true, .bool a0_6, .int .u64 a0_7] 47 (0, 0))) := ⟨h1_⟩
                            have n2_ : Aside0 (w18.heap[gb116]? = some (.cells #[.int .u64 0, .string (⟨#[]⟩ : ByteArray), .slice none 0 0, .int .u64 0, .bool false, .bool false] 34 (0, 0))) := ⟨h2_⟩
                            have n3_ : Aside0 (Below w.heap.size w w18) := ⟨h3_⟩
                            clear BK115
                            clear BK116
                            clear HB
                            clear h0_ h1_ h2_ h3_
                            have HO122 := n0_
                            have BK115 := n1_
                            have BK116 := n2_
                            have HB := n3_
                            clear n0_ n1_ n2_ n3_
                            have hHeld := trivial
                            refine norm_ (a' := ?_) ?_ ?_
                            rotate_left
                            · simp only [putAll, Act.put, List.setIfInBounds_toArray, List.set_cons_zero, List.set_cons_succ]
                              rfl
                            refine one_ (i := 0) (N := some 7) #[true, false, true, true, false, false] rfl rfl (by kernel_rfl) (by decide) (fun K hK => ?_)
                            refine Kd.R_make_step (Kd.int .u8) _ 5 (by rfl) (N := 7) rfl 22 _ _ rfl 64 rfl rfl Try.underlying22 (.int .u8 0) 1 info5 rfl (by decide) (by omega) 0 (ok := fun _ => True) (okp := fun _ => True) rfl (fun _ hk => hk) trivial (by omega) (by omega) (Below.refl _ _) (Nat.le_refl _) ?_
                            intro v118 w19 ho20 hb hg_ hnew_
                            clear hg_ hnew_
                            (first | rw [← Ny117.out] at ho20 | (simp only [Int.reduceToNat] at ho20; rw [← Ny117.out] at ho20))
                            have n0_ := Aside0.mk (Kd.R_elder' (by (with_reducible repeat (first | apply Kd.R_alloc | apply Kd.R_drewN | apply Kd.R_drew)); exact HO122.out) (Kd.R_base ho20) hb)
                            have n1_ := Aside0.mk (Kd.R_lower (Kd.R_new' ho20 (Kd.R_lt (by (with_reducible repeat (first | apply Kd.R_alloc | apply Kd.R_drewN | apply Kd.R_drew)); exact HO122.out))) (below_size (by repeat (first | (with_reducible first | exact HB.out | apply below_alloc | apply pw_below_drewN | apply below_drew1 | refine below_set ?_ GE115.out | refine below_set ?_ GE116.out) | exact HB.out))))
                            have n2_ := Aside0.mk (blk_below (g := gb115) (o := .cells #[.int .u8 a0_0, .int .u8 a0_1, .int .u8 a0_2, .int .u8 a0_3, .int .u64 a0_4, .bool true, .bool a0_6, .int .u64 a0_7] 47 (0, 0)) (by (with_reducible repeat (first | refine blk_drewN ?_ _ | refine blk_drew ?_ | refine blk_alloc ?_ _)); exact BK115.out) hb)
                            have n3_ := Aside0.mk (blk_below (g := gb116) (o := .cells #[.int .u64 0, .string (⟨#[]⟩ : ByteArray), .slice none 0 0, .int .u64 0, .bool false, .bool false] 34 (0, 0)) (by (with_reducible repeat (first | refine blk_drewN ?_ _ | refine blk_drew ?_ | refine blk_alloc ?_ _)); exact BK116.out) hb)
                            have n4_ := Aside0.mk (below_step (by repeat (first | (with_reducible first | exact HB.out | apply below_alloc | apply pw_below_drewN | apply below_drew1 | refine below_set ?_ GE115.out | refine below_set ?_ GE116.out) | exact HB.out)) hb)
                            clear HO122
                            clear BK115
                            clear BK116
                            clear HB
                            have HO122 := n0_
                            have HO119 := n1_
                            have BK115 := n2_
                            have BK116 := n3_
                            have HB := n4_
                            clear n0_ n1_ n2_ n3_ n4_
                            clear hb ho20
                            refine hK.out _ _ trivial (fun hHeld => ?_)
                            clear hK K
                            refine norm_ (a' := ?_) ?_ ?_
                            rotate_left
                            · show Act.put _ (some 7) _ = _
                              simp only [Act.put, List.setIfInBounds_toArray, List.set_cons_zero, List.set_cons_succ, i64_w, i32_w]
                              rfl
                            exact norm_ (by first | (simp only [putAll, Act.put, List.setIfInBounds_toArray, List.set_cons_zero, List.set_cons_succ]; done) | (simp only [putAll, Act.put, List.setIfInBounds_toArray, List.set_cons_zero, List.set_cons_succ]; rfl)) (hJ0_2_3 (v118, v121) _ ⟨(by (with_reducible repeat (first | apply Kd.R_alloc | apply Kd.R_drewN | apply Kd.R_drew)); exact Kd.R_mono HO119.out (fun _ hk => hk.2)), (by (with_reducible repeat (first | apply Kd.R_alloc | apply Kd.R_drewN | apply Kd.R_drew)); exact Kd.R_mono HO122.out (fun _ hk => hk.2)), (by (with_reducible repeat (first | refine blk_drewN ?_ _ | refine blk_drew ?_ | refine blk_alloc ?_ _)); exact BK115.out), (by (with_reducible repeat (first | refine blk_drewN ?_ _ | refine blk_drew ?_ | refine blk_alloc ?_ _)); exact BK116.out), (by repeat (first | (with_reducible first | exact HB.out | apply below_alloc | apply pw_below_drewN | apply below_drew1 | refine below_set ?_ GE115.out | refine below_set ?_ GE116.out) | exact HB.out))⟩)
                        · skip
                          rintro ⟨v118, v121⟩ w19 ⟨h0_, h1_, h2_, h3_, h4_⟩
                          have n0_ : Aside0 (Kd.R (Kd.int .u8) 5 w19 w.heap.size (fun k_ => some k_ ≠ (v121 : Value).ownBlock) v118 y117) := ⟨h0_⟩
                          have n1_ : Aside0 (Kd.R (Kd.int .u8) 5 w19 w.heap.size (fun k_ => some k_ ≠ (v118 : Value).ownBlock) v121 y120) := ⟨h1_⟩
                          have n2_ : Aside0 (w19.heap[gb115]? = some (.cells #[.int .u8 a0_0, .int .u8 a0_1, .int .u8 a0_2, .int .u8 a0_3, .int .u64 a0_4, .bool true, .bool a0_6, .int .u64 a0_7] 47 (0, 0))) := ⟨h2_⟩
                          have n3_ : Aside0 (w19.heap[gb116]? = some (.cells #[.int .u64 0, .string (⟨#[]⟩ : ByteArray), .slice none 0 0, .int .u64 0, .bool false, .bool false] 34 (0, 0))) := ⟨h3_⟩
                          have n4_ : Aside0 (Below w.heap.size w w19) := ⟨h4_⟩
                          clear BK115
                          clear BK116
                          clear HB
                          clear h0_ h1_ h2_ h3_ h4_
                          have HO119 := n0_
                          have HO122 := n1_
                          have BK115 := n2_
                          have BK116 := n3_
                          have HB := n4_
                          clear n0_ n1_ n2_ n3_ n4_
                          have hHeld := trivial
                          refine norm_ (a' := ?_) ?_ ?_
                          rotate_left
                          · simp only [putAll, Act.put, List.setIfInBounds_toArray, List.set_cons_zero, List.set_cons_succ]
                            rfl
                          refine two_ (i := 1) (j := 3) (Ni := some 8) (Nj := some 10) #[true, true, true, false, false, false] #[true, false, true, true, false, false] rfl rfl rfl rfl (by kernel_rfl) (by decide) (by decide) (fun K hK => ?_) (fun K hK => ?_)
                          · skip
                            have hcv20 := own_string (P := Try.prog) Try.underlying22 Try.underlying5 Try.underlying9 (Kd.own_of_R HO119.out)
                            refine value_ (w1 := ?_) (v := ?_) (by rfl) rfl ?_ ?_
                            rotate_left 2
                            · go_simp
                              constructor
                              · rfl
                              · rfl
                            clear hcv20
                            refine hK.out _ _ trivial (fun hHeld => ?_)
                            clear hK K
                            refine norm_ (a' := ?_) ?_ ?_
                            rotate_left
                            · show Act.put _ (some 8) _ = _
                              simp only [Act.put, List.setIfInBounds_toArray, List.set_cons_zero, List.set_cons_succ, i64_w, i32_w]
                              rfl
                            exact norm_ (by first | (simp only [putAll, Act.put, List.setIfInBounds_toArray, List.set_cons_zero, List.set_cons_succ]; done) | (simp only [putAll, Act.put, List.setIfInBounds_toArray, List.set_cons_zero, List.set_cons_succ]; rfl)) (hJ0_1_2 (v118, v121) _ ⟨(by (with_reducible repeat (first | apply Kd.R_alloc | apply Kd.R_drewN | apply Kd.R_drew)); exact HO119.out), (by (with_reducible repeat (first | apply Kd.R_alloc | apply Kd.R_drewN | apply Kd.R_drew)); exact HO122.out), (by (with_reducible repeat (first | refine blk_drewN ?_ _ | refine blk_drew ?_ | refine blk_alloc ?_ _)); exact BK115.out), (by (with_reducible repeat (first | refine blk_drewN ?_ _ | refine blk_drew ?_ | refine blk_alloc ?_ _)); exact BK116.out), (by repeat (first | (with_reducible first | exact HB.out | apply below_alloc | apply pw_below_drewN | apply below_drew1 | refine below_set ?_ GE115.out | refine below_set ?_ GE116.out) | exact HB.out))⟩)
                          · skip
                            have hcv20 := own_string (P := Try.prog) Try.underlying22 Try.underlying5 Try.underlying9 (Kd.own_of_R HO122.out)
                            refine value_ (w1 := ?_) (v := ?_) (by rfl) rfl ?_ ?_
                            rotate_left 2
                            · go_simp
                              constructor
                              · rfl
                              · rfl
                            clear hcv20
                            refine hK.out _ _ trivial (fun hHeld => ?_)
                            clear hK K
                            refine norm_ (a' := ?_) ?_ ?_
                            rotate_left
                            · show Act.put _ (some 10) _ = _
                              simp only [Act.put, List.setIfInBounds_toArray, List.set_cons_zero, List.set_cons_succ, i64_w, i32_w]
                              rfl
                            exact norm_ (by first | (simp only [putAll, Act.put, List.setIfInBounds_toArray, List.set_cons_zero, List.set_cons_succ]; done) | (simp only [putAll, Act.put, List.setIfInBounds_toArray, List.set_cons_zero, List.set_cons_succ]; rfl)) (hJ0_2_3 (v118, v121) _ ⟨(by (with_reducible repeat (first | apply Kd.R_alloc | apply Kd.R_drewN | apply Kd.R_drew)); exact HO119.out), (by (with_reducible repeat (first | apply Kd.R_alloc | apply Kd.R_drewN | apply Kd.R_drew)); exact HO122.out), (by (with_reducible repeat (first | refine blk_drewN ?_ _ | refine blk_drew ?_ | refine blk_alloc ?_ _)); exact BK115.out), (by (with_reducible repeat (first | refine blk_drewN ?_ _ | refine blk_drew ?_ | refine blk_alloc ?_ _)); exact BK116.out), (by repeat (first | (with_reducible first | exact HB.out | apply below_alloc | apply pw_below_drewN | apply below_drew1 | refine below_set ?_ GE115.out | refine below_set ?_ GE116.out) | exact HB.out))⟩)
                      · skip
                        rintro v118 w18 ⟨h0_, h1_, h2_, h3_⟩
                        have n0_ : Aside0 (Kd.R (Kd.int .u8) 5 w18 w.heap.size (fun _ => True) v118 y117) := ⟨h0_⟩
                        have n1_ : Aside0 (w18.heap[gb115]? = some (.cells #[.int .u8 a0_0, .int .u8 a0_1, .int .u8 a0_2, .int .u8 a0_3, .int .u64 a0_4, .bool true, .bool a0_6, .int .u64 a0_7] 47 (0, 0))) := ⟨h1_⟩
                        have n2_ : Aside0 (w18.heap[gb116]? = some (.cells #[.int .u64 0, .string (⟨#[]⟩ : ByteArray), .slice none 0 0, .int .u64 0, .bool false, .bool false] 34 (0, 0))) := ⟨h2_⟩
                        have n3_ : Aside0 (Below w.heap.size w w18) := ⟨h3_⟩
                        clear BK115
                        clear BK116
                        clear HB
                        clear h0_ h1_ h2_ h3_
                        have HO119 := n0_
                        have BK115 := n1_
                        have BK116 := n2_
                        have HB := n3_
                        clear n0_ n1_ n2_ n3_
                        have hHeld := trivial
                        refine norm_ (a' := ?_) ?_ ?_
                        rotate_left
                        · simp only [putAll, Act.put, List.setIfInBounds_toArray, List.set_cons_zero, List.set_cons_succ]
                          rfl
                        refine one_ (i := 2) (N := some 9) #[true, true, true, false, false, false] rfl rfl (by kernel_rfl) (by decide) (fun K hK => ?_)
                        refine Kd.R_make_step (Kd.int .u8) _ 5 (by rfl) (N := 9) rfl 22 _ _ rfl 65 rfl rfl Try.underlying22 (.int .u8 0) 1 info5 rfl (by decide) (by omega) 0 (ok := fun _ => True) (okp := fun _ => True) rfl (fun _ hk => hk) trivial (by omega) (by omega) (Below.refl _ _) (Nat.le_refl _) ?_
                        intro v121 w19 ho20 hb hg_ hnew_
                        clear hg_ hnew_
                        (first | rw [← Ny120.out] at ho20 | (simp only [Int.reduceToNat] at ho20; rw [← Ny120.out] at ho20))
                        have n0_ := Aside0.mk (Kd.R_elder' (by (with_reducible repeat (first | apply Kd.R_alloc | apply Kd.R_drewN | apply Kd.R_drew)); exact HO119.out) (Kd.R_base ho20) hb)
                        have n1_ := Aside0.mk (Kd.R_lower (Kd.R_new' ho20 (Kd.R_lt (by (with_reducible repeat (first | apply Kd.R_alloc | apply Kd.R_drewN | apply Kd.R_drew)); exact HO119.out))) (below_size (by repeat (first | (with_reducible first | exact HB.out | apply below_alloc | apply pw_below_drewN | apply below_drew1 | refine below_set ?_ GE115.out | refine below_set ?_ GE116.out) | exact HB.out))))
                        have n2_ := Aside0.mk (blk_below (g := gb115) (o := .cells #[.int .u8 a0_0, .int .u8 a0_1, .int .u8 a0_2, .int .u8 a0_3, .int .u64 a0_4, .bool true, .bool a0_6, .int .u64 a0_7] 47 (0, 0)) (by (with_reducible repeat (first | refine blk_drewN ?_ _ | refine blk_drew ?_ | refine blk_alloc ?_ _)); exact BK115.out) hb)
                        have n3_ := Aside0.mk (blk_below (g := gb116) (o := .cells #[.int .u64 0, .string (⟨#[]⟩ : ByteArray), .slice none 0 0, .int .u64 0, .bool false, .bool false] 34 (0, 0)) (by (with_reducible repeat (first | refine blk_drewN ?_ _ | refine blk_drew ?_ | refine blk_alloc ?_ _)); exact BK116.out) hb)
                        have n4_ := Aside0.mk (below_step (by repeat (first | (with_reducible first | exact HB.out | apply below_alloc | apply pw_below_drewN | apply below_drew1 | refine below_set ?_ GE115.out | refine below_set ?_ GE116.out) | exact HB.out)) hb)
                        clear HO119
                        clear BK115
                        clear BK116
                        clear HB
                        have HO119 := n0_
                        have HO122 := n1_
                        have BK115 := n2_
                        have BK116 := n3_
                        have HB := n4_
                        clear n0_ n1_ n2_ n3_ n4_
                        clear hb ho20
                        refine hK.out _ _ trivial (fun hHeld => ?_)
                        clear hK K
                        refine norm_ (a' := ?_) ?_ ?_
                        rotate_left
                        · show Act.put _ (some 9) _ = _
                          simp only [Act.put, List.setIfInBounds_toArray, List.set_cons_zero, List.set_cons_succ, i64_w, i32_w]
                          rfl
                        exact norm_ (by first | (simp only [putAll, Act.put, List.setIfInBounds_toArray, List.set_cons_zero, List.set_cons_succ]; done) | (simp only [putAll, Act.put, List.setIfInBounds_toArray, List.set_cons_zero, List.set_cons_succ]; rfl)) (hJ0_1_2 (v118, v121) _ ⟨(by (with_reducible repeat (first | apply Kd.R_alloc | apply Kd.R_drewN | apply Kd.R_drew)); exact Kd.R_mono HO119.out (fun _ hk => hk.2)), (by (with_reducible repeat (first | apply Kd.R_alloc | apply Kd.R_drewN | apply Kd.R_drew)); exact Kd.R_mono HO122.out (fun _ hk => hk.2)), (by (with_reducible repeat (first | refine blk_drewN ?_ _ | refine blk_drew ?_ | refine blk_alloc ?_ _)); exact BK115.out), (by (with_reducible repeat (first | refine blk_drewN ?_ _ | refine blk_drew ?_ | refine blk_alloc ?_ _)); exact BK116.out), (by repeat (first | (with_reducible first | exact HB.out | apply below_alloc | apply pw_below_drewN | apply below_drew1 | refine below_set ?_ GE115.out | refine below_set ?_ GE116.out) | exact HB.out))⟩)
                    · skip
                      rintro ⟨v118, v121⟩ w20 ⟨h0_, h1_, h2_, h3_, h4_⟩
                      have n0_ : Aside0 (Kd.R (Kd.int .u8) 5 w20 w.heap.size (fun k_ => some k_ ≠ (v121 : Value).ownBlock) v118 y117) := ⟨h0_⟩
                      have n1_ : Aside0 (Kd.R (Kd.int .u8) 5 w20 w.heap.size (fun k_ => some k_ ≠ (v118 : Value).ownBlock) v121 y120) := ⟨h1_⟩
                      have n2_ : Aside0 (w20.heap[gb115]? = some (.cells #[.int .u8 a0_0, .int .u8 a0_1, .int .u8 a0_2, .int .u8 a0_3, .int .u64 a0_4, .bool true, .bool a0_6, .int .u64 a0_7] 47 (0, 0))) := ⟨h2_⟩
                      have n3_ : Aside0 (w20.heap[gb116]? = some (.cells #[.int .u64 0, .string (⟨#[]⟩ : ByteArray), .slice none 0 0, .int .u64 0, .bool false, .bool false] 34 (0, 0))) := ⟨h3_⟩
                      have n4_ : Aside0 (Below w.heap.size w w20) := ⟨h4_⟩
                      clear BK115
                      clear BK116
                      clear HB
                      clear h0_ h1_ h2_ h3_ h4_
                      have HO119 := n0_
                      have HO122 := n1_
                      have BK115 := n2_
                      have BK116 := n3_
                      have HB := n4_
                      clear n0_ n1_ n2_ n3_ n4_
                      have hHeld := trivial
                      refine norm_ (a' := ?_) ?_ ?_
                      rotate_left
                      · simp only [putAll, Act.put, List.setIfInBounds_toArray, List.set_cons_zero, List.set_cons_succ]
                        rfl
                      refine one_ (i := 1) (N := some 8) #[true, true, true, true, false, false] rfl rfl (by kernel_rfl) (by decide) (fun K hK => ?_)
                      have hcv21 := own_string (P := Try.prog) Try.underlying22 Try.underlying5 Try.underlying9 (Kd.own_of_R HO119.out)
                      refine value_ (w1 := ?_) (v := ?_) (by rfl) rfl ?_ ?_
                      rotate_left 2
                      · go_simp
                        constructor
                        · rfl
                        · rfl
                      clear hcv21
                      refine hK.out _ _ trivial (fun hHeld => ?_)
                      clear hK K
                      refine norm_ (a' := ?_) ?_ ?_
                      rotate_left
                      · show Act.put _ (some 8) _ = _
                        simp only [Act.put, List.setIfInBounds_toArray, List.set_cons_zero, List.set_cons_succ, i64_w, i32_w]
                        rfl
                      exact norm_ (by first | (simp only [putAll, Act.put, List.setIfInBounds_toArray, List.set_cons_zero, List.set_cons_succ]; done) | (simp only [putAll, Act.put, List.setIfInBounds_toArray, List.set_cons_zero, List.set_cons_succ]; rfl)) (hJ0_1_2_3 (v118, v121) _ ⟨(by (with_reducible repeat (first | apply Kd.R_alloc | apply Kd.R_drewN | apply Kd.R_drew)); exact HO119.out), (by (with_reducible repeat (first | apply Kd.R_alloc | apply Kd.R_drewN | apply Kd.R_drew)); exact HO122.out), (by (with_reducible repeat (first | refine blk_drewN ?_ _ | refine blk_drew ?_ | refine blk_alloc ?_ _)); exact BK115.out), (by (with_reducible repeat (first | refine blk_drewN ?_ _ | refine blk_drew ?_ | refine blk_alloc ?_ _)); exact BK116.out), (by repeat (first | (with_reducible first | exact HB.out | apply below_alloc | apply pw_below_drewN | apply below_drew1 | refine below_set ?_ GE115.out | refine below_set ?_ GE116.out) | exact HB.out))⟩)
                  · skip
                    rintro ⟨v118, v121⟩ w20 ⟨h0_, h1_, h2_, h3_, h4_⟩
                    have n0_ : Aside0 (Kd.R (Kd.int .u8) 5 w20 w.heap.size (fun k_ => some k_ ≠ (v121 : Value).ownBlock) v118 y117) := ⟨h0_⟩
                    have n1_ : Aside0 (Kd.R (Kd.int .u8) 5 w20 w.heap.size (fun k_ => some k_ ≠ (v118 : Value).ownBlock) v121 y120) := ⟨h1_⟩
                    have n2_ : Aside0 (w20.heap[gb115]? = some (.cells #[.int .u8 a0_0, .int .u8 a0_1, .int .u8 a0_2, .int .u8 a0_3, .int .u64 a0_4, .bool true, .bool a0_6, .int .u64 a0_7] 47 (0, 0))) := ⟨h2_⟩
                    have n3_ : Aside0 (w20.heap[gb116]? = some (.cells #[.int .u64 0, .string (⟨#[]⟩ : ByteArray), .slice none 0 0, .int .u64 0, .bool false, .bool false] 34 (0, 0))) := ⟨h3_⟩
                    have n4_ : Aside0 (Below w.heap.size w w20) := ⟨h4_⟩
                    clear BK115
                    clear BK116
                    clear HB
                    clear h0_ h1_ h2_ h3_ h4_
                    have HO119 := n0_
                    have HO122 := n1_
                    have BK115 := n2_
                    have BK116 := n3_
                    have HB := n4_
                    clear n0_ n1_ n2_ n3_ n4_
                    have hHeld := trivial
                    refine norm_ (a' := ?_) ?_ ?_
                    rotate_left
                    · simp only [putAll, Act.put, List.setIfInBounds_toArray, List.set_cons_zero, List.set_cons_succ]
                      rfl
                    refine one_ (i := 3) (N := some 10) #[true, true, true, true, false, false] rfl rfl (by kernel_rfl) (by decide) (fun K hK => ?_)
                    have hcv21 := own_string (P := Try.prog) Try.underlying22 Try.underlying5 Try.underlying9 (Kd.own_of_R HO122.out)
                    refine value_ (w1 := ?_) (v := ?_) (by rfl) rfl ?_ ?_
                    rotate_left 2
                    · go_simp
                      constructor
                      · rfl
                      · rfl
                    clear hcv21
                    refine hK.out _ _ trivial (fun hHeld => ?_)
                    clear hK K
                    refine norm_ (a' := ?_) ?_ ?_
                    rotate_left
                    · show Act.put _ (some 10) _ = _
                      simp only [Act.put, List.setIfInBounds_toArray, List.set_cons_zero, List.set_cons_succ, i64_w, i32_w]
                      rfl
                    exact norm_ (by first | (simp only [putAll, Act.put, List.setIfInBounds_toArray, List.set_cons_zero, List.set_cons_succ]; done) | (simp only [putAll, Act.put, List.setIfInBounds_toArray, List.set_cons_zero, List.set_cons_succ]; rfl)) (hJ0_1_2_3 (v118, v121) _ ⟨(by (with_reducible repeat (first | apply Kd.R_alloc | apply Kd.R_drewN | apply Kd.R_drew)); exact HO119.out), (by (with_reducible repeat (first | apply Kd.R_alloc | apply Kd.R_drewN | apply Kd.R_drew)); exact HO122.out), (by (with_reducible repeat (first | refine blk_drewN ?_ _ | refine blk_drew ?_ | refine blk_alloc ?_ _)); exact BK115.out), (by (with_reducible repeat (first | refine blk_drewN ?_ _ | refine blk_drew ?_ | refine blk_alloc ?_ _)); exact BK116.out), (by repeat (first | (with_reducible first | exact HB.out | apply below_alloc | apply pw_below_drewN | apply below_drew1 | refine below_set ?_ GE115.out | refine below_set ?_ GE116.out) | exact HB.out))⟩)
                rintro ⟨v118, v121⟩ w21 ⟨h0_, h1_, h2_, h3_, h4_⟩
                have n0_ : Aside0 (Kd.R (Kd.int .u8) 5 w21 w.heap.size (fun k_ => some k_ ≠ (v121 : Value).ownBlock) v118 y117) := ⟨h0_⟩
                have n1_ : Aside0 (Kd.R (Kd.int .u8) 5 w21 w.heap.size (fun k_ => some k_ ≠ (v118 : Value).ownBlock) v121 y120) := ⟨h1_⟩
                have n2_ : Aside0 (w21.heap[gb115]? = some (.cells #[.int .u8 a0_0, .int .u8 a0_1, .int .u8 a0_2, .int .u8 a0_3, .int .u64 a0_4, .bool true, .bool a0_6, .int .u64 a0_7] 47 (0, 0))) := ⟨h2_⟩
                have n3_ : Aside0 (w21.heap[gb116]? = some (.cells #[.int .u64 0, .string (⟨#[]⟩ : ByteArray), .slice none 0 0, .int .u64 0, .bool false, .bool false] 34 (0, 0))) := ⟨h3_⟩
                have n4_ : Aside0 (Below w.heap.size w w21) := ⟨h4_⟩
                clear BK115
                clear BK116
                clear HB
                clear h0_ h1_ h2_ h3_ h4_
                have HO119 := n0_
                have HO122 := n1_
                have BK115 := n2_
                have BK116 := n3_
                have HB := n4_
                clear n0_ n1_ n2_ n3_ n4_
                have hHeld := trivial
                refine norm_ (a' := ?_) ?_ ?_
                rotate_left
                · simp only [putAll, Act.put, List.setIfInBounds_toArray, List.set_cons_zero, List.set_cons_succ]
                  rfl
                refine one_ (i := 4) (N := some 11) #[true, true, true, true, true, false] rfl rfl (by kernel_rfl) (by decide) (fun K hK => ?_)
                refine Kd.R_lit_step Kd.string _ 9 ?hg (N := 11) ?hd (xs := ([(⟨#[117]⟩ : ByteArray), (⟨#[118]⟩ : ByteArray), (⟨#[]⟩ : ByteArray), strOfNums y117, strOfNums y120] : List ByteArray)) (inner := [.string (⟨#[117]⟩ : ByteArray), .string (⟨#[118]⟩ : ByteArray), .string (⟨#[]⟩ : ByteArray), .string (strOfNums y117), .string (strOfNums y120)]) (ok := fun _ => True) (okp := fun _ => True) ?hr ?hp (fun _ hk => hk) trivial (Below.refl _ _) (Nat.le_refl _) (by simp) ?_; (case hd => rfl); (case hg => rfl); (case hr => first | (go_simp; done) | (go_simp; rfl)); (case hp => exact (Reps.one (show Kd.M Kd.string _ _ _ (⟨#[117]⟩ : ByteArray) [.string (⟨#[117]⟩ : ByteArray)] from rfl) (Reps.one (show Kd.M Kd.string _ _ _ (⟨#[118]⟩ : ByteArray) [.string (⟨#[118]⟩ : ByteArray)] from rfl) (Reps.one (show Kd.M Kd.string _ _ _ (⟨#[]⟩ : ByteArray) [.string (⟨#[]⟩ : ByteArray)] from rfl) (Reps.one (show Kd.M Kd.string _ _ _ (strOfNums y117) [.string (strOfNums y117)] from rfl) (Reps.one (show Kd.M Kd.string _ _ _ (strOfNums y120) [.string (strOfNums y120)] from rfl) (Reps.none _ _)))))))
                intro v124 w22 ho23 hb hg_ hnew_
                clear hg_ hnew_
                (first | rw [← Ny123.out] at ho23 | (simp only [Int.reduceToNat] at ho23; rw [← Ny123.out] at ho23))
                have n0_ := Aside0.mk (Kd.R_below (by (with_reducible repeat (first | apply Kd.R_alloc | apply Kd.R_drewN | apply Kd.R_drew)); exact HO119.out) hb)
                have n1_ := Aside0.mk (Kd.R_below (by (with_reducible repeat (first | apply Kd.R_alloc | apply Kd.R_drewN | apply Kd.R_drew)); exact HO122.out) hb)
                have n2_ := Aside0.mk (Kd.R_lower ho23 (below_size (by repeat (first | (with_reducible first | exact HB.out | apply below_alloc | apply pw_below_drewN | apply below_drew1 | refine below_set ?_ GE115.out | refine below_set ?_ GE116.out) | exact HB.out))))
                have n3_ := Aside0.mk (blk_below (g := gb115) (o := .cells #[.int .u8 a0_0, .int .u8 a0_1, .int .u8 a0_2, .int .u8 a0_3, .int .u64 a0_4, .bool true, .bool a0_6, .int .u64 a0_7] 47 (0, 0)) (by (with_reducible repeat (first | refine blk_drewN ?_ _ | refine blk_drew ?_ | refine blk_alloc ?_ _)); exact BK115.out) hb)
                have n4_ := Aside0.mk (blk_below (g := gb116) (o := .cells #[.int .u64 0, .string (⟨#[]⟩ : ByteArray), .slice none 0 0, .int .u64 0, .bool false, .bool false] 34 (0, 0)) (by (with_reducible repeat (first | refine blk_drewN ?_ _ | refine blk_drew ?_ | refine blk_alloc ?_ _)); exact BK116.out) hb)
                have n5_ := Aside0.mk (below_step (by repeat (first | (with_reducible first | exact HB.out | apply below_alloc | apply pw_below_drewN | apply below_drew1 | refine below_set ?_ GE115.out | refine below_set ?_ GE116.out) | exact HB.out)) hb)
                clear HO119
                clear HO122
                clear BK115
                clear BK116
                clear HB
                have HO119 := n0_
                have HO122 := n1_
                have HO125 := n2_
                have BK115 := n3_
                have BK116 := n4_
                have HB := n5_
                clear n0_ n1_ n2_ n3_ n4_ n5_
                clear hb ho23
                refine hK.out _ _ trivial (fun hHeld => ?_)
                clear hK K
                refine norm_ (a' := ?_) ?_ ?_
                rotate_left
                · show Act.put _ (some 11) _ = _
                  simp only [Act.put, List.setIfInBounds_toArray, List.set_cons_zero, List.set_cons_succ, i64_w, i32_w]
                  rfl
                refine pure_ (i := 5) (N := some 3) (v := ?_) (a' := ?_) #[true, true, true, true, true, true] rfl rfl (by kernel_rfl) (fun _ _ _ h => h) (Or.inl ⟨by rfl, ?_⟩) ?_ ?_
                rotate_left
                · intro w'
                  go_simp
                  with_reducible rfl
                rotate_left
                · simp only [Act.put, List.setIfInBounds_toArray, List.set_cons_zero, List.set_cons_succ, i64_w, i32_w]
                  rfl
                refine done_ (by kernel_rfl) ?_
                try go_wp2_with (first | ((with_reducible refine gate_dst (N := 12) rfl ?_); refine Kd.R_lit (Kd.int .i64) _ 3 ?hg (N := 12) ?hd (xs := ([16, 64, 15, 65, 20, 0] : List Int)) (inner := [.int .i64 16, .int .i64 64, .int .i64 15, .int .i64 65, .int .i64 20, .int .i64 0]) (ok := fun _ => True) (okp := fun _ => True) ?hr ?hp (fun _ hk => hk) trivial (Below.refl _ _) (Nat.le_refl _) (by simp) ?_; (case hd => rfl); (case hg => rfl); (case hr => first | (go_simp; done) | (go_simp; rfl)); (case hp => exact (Reps.one (show Kd.M (Kd.int .i64) _ _ _ 16 [.int .i64 16] from rfl) (Reps.one (show Kd.M (Kd.int .i64) _ _ _ 64 [.int .i64 64] from rfl) (Reps.one (show Kd.M (Kd.int .i64) _ _ _ 15 [.int .i64 15] from rfl) (Reps.one (show Kd.M (Kd.int .i64) _ _ _ 65 [.int .i64 65] from rfl) (Reps.one (show Kd.M (Kd.int .i64) _ _ _ 20 [.int .i64 20] from rfl) (Reps.one (show Kd.M (Kd.int .i64) _ _ _ 0 [.int .i64 0] from rfl) (Reps.none _ _)))))))); intro v127 w24 ho25 hb hg_ hnew_; clear hg_ hnew_; (first | rw [← Ny126.out] at ho25 | (simp only [Int.reduceToNat] at ho25; rw [← Ny126.out] at ho25)); have n0_ := Aside0.mk (Kd.R_below (by (with_reducible repeat (first | apply Kd.R_alloc | apply Kd.R_drewN | apply Kd.R_drew)); exact HO119.out) hb); have n1_ := Aside0.mk (Kd.R_below (by (with_reducible repeat (first | apply Kd.R_alloc | apply Kd.R_drewN | apply Kd.R_drew)); exact HO122.out) hb); have n2_ := Aside0.mk (Kd.R_below (by (with_reducible repeat (first | apply Kd.R_alloc | apply Kd.R_drewN | apply Kd.R_drew)); exact HO125.out) hb); have n3_ := Aside0.mk (Kd.R_lower ho25 (below_size (by repeat (first | (with_reducible first | exact HB.out | apply below_alloc | apply pw_below_drewN | apply below_drew1 | refine below_set ?_ GE115.out | refine below_set ?_ GE116.out) | exact HB.out)))); have n4_ := Aside0.mk (blk_below (g := gb115) (o := .cells #[.int .u8 a0_0, .int .u8 a0_1, .int .u8 a0_2, .int .u8 a0_3, .int .u64 a0_4, .bool true, .bool a0_6, .int .u64 a0_7] 47 (0, 0)) (by (with_reducible repeat (first | refine blk_drewN ?_ _ | refine blk_drew ?_ | refine blk_alloc ?_ _)); exact BK115.out) hb); have n5_ := Aside0.mk (blk_below (g := gb116) (o := .cells #[.int .u64 0, .string (⟨#[]⟩ : ByteArray), .slice none 0 0, .int .u64 0, .bool false, .bool false] 34 (0, 0)) (by (with_reducible repeat (first | refine blk_drewN ?_ _ | refine blk_drew ?_ | refine blk_alloc ?_ _)); exact BK116.out) hb); have n6_ := Aside0.mk (below_step (by repeat (first | (with_reducible first | exact HB.out | apply below_alloc | apply pw_below_drewN | apply below_drew1 | refine below_set ?_ GE115.out | refine below_set ?_ GE116.out) | exact HB.out)) hb); clear HO119; clear HO122; clear HO125; clear BK115; clear BK116; clear HB; have HO119 := n0_; have HO122 := n1_; have HO125 := n2_; have HO128 := n3_; have BK115 := n4_; have BK116 := n5_; have HB := n6_; clear n0_ n1_ n2_ n3_ n4_ n5_ n6_; clear hb ho25; have hnb26 := NB115_116.out; have hnc26 := NB116_115.out; have hcz27_0 : w24.cell? ⟨gb115, 0, none⟩ = some (.int .u8 a0_0) := (blk_cell BK115.out 0).trans rfl; have hcz27_1 : w24.cell? ⟨gb115, 1, none⟩ = some (.int .u8 a0_1) := (blk_cell BK115.out 1).trans rfl; have hcz27_2 : w24.cell? ⟨gb115, 2, none⟩ = some (.int .u8 a0_2) := (blk_cell BK115.out 2).trans rfl; have hcz27_3 : w24.cell? ⟨gb115, 3, none⟩ = some (.int .u8 a0_3) := (blk_cell BK115.out 3).trans rfl; have hcz27_4 : w24.cell? ⟨gb115, 4, none⟩ = some (.int .u64 a0_4) := (blk_cell BK115.out 4).trans rfl; have hcz27_5 : w24.cell? ⟨gb115, 5, none⟩ = some (.bool true) := (blk_cell BK115.out 5).trans rfl; have hcz27_6 : w24.cell? ⟨gb115, 6, none⟩ = some (.bool a0_6) := (blk_cell BK115.out 6).trans rfl; have hcz27_7 : w24.cell? ⟨gb115, 7, none⟩ = some (.int .u64 a0_7) := (blk_cell BK115.out 7).trans rfl; have hfz27_0 := blk_frozen BK115.out 0; have hfz27_1 := blk_frozen BK115.out 1; have hfz27_2 := blk_frozen BK115.out 2; have hfz27_3 := blk_frozen BK115.out 3; have hfz27_4 := blk_frozen BK115.out 4; have hfz27_5 := blk_frozen BK115.out 5; have hfz27_6 := blk_frozen BK115.out 6; have hfz27_7 := blk_frozen BK115.out 7))
                have n0_ := Aside0.mk (Kd.R_drew HO119.out)
                have n1_ := Aside0.mk (Kd.R_drew HO122.out)
                have n2_ := Aside0.mk (Kd.R_drew HO125.out)
                have n3_ := Aside0.mk (Kd.R_drew HO128.out)
                have n4_ := Aside0.mk (blk_drew BK115.out)
                have n5_ := Aside0.mk (blk_drew BK116.out)
                have n6_ := Aside0.mk (below_drew1 HB.out)
                clear HO119
                clear HO122
                clear HO125
                clear HO128
                clear BK115
                clear BK116
                clear HB
                have HO119 := n0_
                have HO122 := n1_
                have HO125 := n2_
                have HO128 := n3_
                have BK115 := n4_
                have BK116 := n5_
                have HB := n6_
                clear n0_ n1_ n2_ n3_ n4_ n5_ n6_
                obtain ⟨Ao29, co29, eo29⟩ := Kd.R_slice HO128.out
                (first | subst eo29 | (injection eo29 with f1_ f2_ f3_; have f4_ := f1_.symm; have f5_ := f3_.symm; clear f1_ f2_ f3_; subst f4_; subst f5_))
                have p129 : 0 ≤ ((ji5) : Int) := of_decide_eq_true (by first | (with_reducible assumption) | assumption)
                have q129 : (ji5) < (y126.length : Int) := of_decide_eq_true (by first | (with_reducible assumption) | assumption)
                obtain ⟨ad129, e129, hx129_0⟩ := Kd.at_int (Kd.R_reads' HO128.out).2.2 (ji5) p129 q129
                cases e129
                replace p129 := eq_true p129
                replace q129 := eq_true q129
                refine start_ (n := 12) (S := fun w' => w'.cell? ⟨gb115, 0, none⟩ = some (.int .u8 a0_0) ∧ w'.cell? ⟨gb115, 1, none⟩ = some (.int .u8 a0_1) ∧ w'.cell? ⟨gb115, 2, none⟩ = some (.int .u8 a0_2) ∧ w'.cell? ⟨gb115, 3, none⟩ = some (.int .u8 a0_3) ∧ w'.cell? ⟨gb115, 4, none⟩ = some (.int .u64 a0_4) ∧ w'.cell? ⟨gb115, 5, none⟩ = some (.bool true) ∧ w'.cell? ⟨gb115, 6, none⟩ = some (.bool a0_6) ∧ w'.cell? ⟨gb115, 7, none⟩ = some (.int .u64 a0_7) ∧ w'.cell? (ad129.add ((ji5)).toNat) = some (.int .i64 (rd y126 (ji5)))) (ds := []) #[false, false, false, false, false, false, false, false, false, false, false, false] (by kernel_rfl) rfl rfl ⟨(blk_cell BK115.out 0).trans rfl, (blk_cell BK115.out 1).trans rfl, (blk_cell BK115.out 2).trans rfl, (blk_cell BK115.out 3).trans rfl, (blk_cell BK115.out 4).trans rfl, (blk_cell BK115.out 5).trans rfl, (blk_cell BK115.out 6).trans rfl, (blk_cell BK115.out 7).trans rfl, hx129_0⟩ (fun hHeld => ?_); refine with_tabW latchkeylaw20_session.tab5 latchkeylaw20_session.bits5 (fun HT_ HW_ => ?_)
                generalize w24.drew = w28 at HO119 HO122 HO125 HO128 BK115 BK116 HB hx129_0 hHeld ⊢
                refine pure_ (i := 0) (N := some 15) (v := ?_) (a' := ?_) #[true, false, false, false, false, false, false, false, false, false, false, false] rfl rfl (any_of HT_.out (by kernel_rfl)) (fun _ _ _ h => h) (Or.inl ⟨by rfl, ?_⟩) ?_ ?_
                rotate_left
                · intro w'
                  go_simp
                  with_reducible rfl
                rotate_left
                · simp only [Act.put, List.setIfInBounds_toArray, List.set_cons_zero, List.set_cons_succ, i64_w, i32_w]
                  rfl
                refine pure_ (i := 4) (N := some 19) (v := ?_) (a' := ?_) #[true, false, false, false, true, false, false, false, false, false, false, false] rfl rfl (any_of HT_.out (by kernel_rfl)) (fun _ _ _ h => h) (Or.inl ⟨by rfl, ?_⟩) ?_ ?_
                rotate_left
                · intro w'
                  go_simp
                  with_reducible rfl
                rotate_left
                · simp only [Act.put, List.setIfInBounds_toArray, List.set_cons_zero, List.set_cons_succ, i64_w, i32_w]
                  rfl
                refine pure_ (i := 5) (N := some 20) (v := ?_) (a' := ?_) #[true, false, false, false, true, true, false, false, false, false, false, false] rfl rfl (any_of HT_.out (by kernel_rfl)) (fun _ _ _ h => h) (Or.inl ⟨by rfl, ?_⟩) ?_ ?_
                rotate_left
                · intro w'
                  go_simp
                  with_reducible rfl
                rotate_left
                · simp only [Act.put, List.setIfInBounds_toArray, List.set_cons_zero, List.set_cons_succ, i64_w, i32_w]
                  rfl
                refine take_ (i := 1) (N := some 16) (v := ?_) (a' := ?_) #[true, true, false, false, true, true, false, false, false, false, false, false] rfl rfl (take_ofW HT_.out HW_.out (by kernel_rfl)) (fun _ _ _ h => h) (Or.inl ⟨by rfl, ?_⟩) hHeld ?_ ?_
                rotate_left
                · rintro w' ⟨s0, s1, s2, s3, s4, s5, s6, s7, s8⟩
                  go_simp
                  with_reducible rfl
                rotate_left
                · simp only [Act.put, List.setIfInBounds_toArray, List.set_cons_zero, List.set_cons_succ, i64_w, i32_w]
                  rfl
                refine pure_ (i := 2) (N := some 17) (v := ?_) (a' := ?_) #[true, true, true, false, true, true, false, false, false, false, false, false] rfl rfl (any_of HT_.out (by kernel_rfl)) (fun _ _ _ h => h) (Or.inl ⟨by rfl, ?_⟩) ?_ ?_
                rotate_left
                · intro w'
                  go_simp
                  with_reducible rfl
                rotate_left
                · simp only [Act.put, List.setIfInBounds_toArray, List.set_cons_zero, List.set_cons_succ, i64_w, i32_w]
                  rfl
                refine pure_ (i := 3) (N := some 18) (v := ?_) (a' := ?_) #[true, true, true, true, true, true, false, false, false, false, false, false] rfl rfl (any_of HT_.out (by kernel_rfl)) (fun _ _ _ h => h) (Or.inl ⟨by rfl, ?_⟩) ?_ ?_
                rotate_left
                · intro w'
                  go_simp
                  with_reducible rfl
                rotate_left
                · simp only [Act.put, List.setIfInBounds_toArray, List.set_cons_zero, List.set_cons_succ, i64_w, i32_w]
                  rfl
                refine pure_ (i := 10) (N := some 5) (v := ?_) (a' := ?_) #[true, true, true, true, true, true, false, false, false, false, true, false] rfl rfl (any_of HT_.out (by kernel_rfl)) (fun _ _ _ h => h) (Or.inl ⟨by rfl, ?_⟩) ?_ ?_
                rotate_left
                · intro w'
                  go_simp
                  with_reducible rfl
                rotate_left
                · simp only [Act.put, List.setIfInBounds_toArray, List.set_cons_zero, List.set_cons_succ, i64_w, i32_w]
                  rfl
                refine take_ (i := 6) (N := some 21) (v := ?_) (a' := ?_) #[true, true, true, true, true, true, true, false, false, false, true, false] rfl rfl (take_ofW HT_.out HW_.out (by kernel_rfl)) (fun _ _ _ h => h) (Or.inl ⟨by rfl, ?_⟩) hHeld ?_ ?_
                rotate_left
                · rintro w' ⟨s0, s1, s2, s3, s4, s5, s6, s7, s8⟩
                  go_simp
                  with_reducible rfl
                rotate_left
                · simp only [Act.put, List.setIfInBounds_toArray, List.set_cons_zero, List.set_cons_succ, i64_w, i32_w]
                  rfl
                refine pure_ (i := 7) (N := some 22) (v := ?_) (a' := ?_) #[true, true, true, true, true, true, true, true, false, false, true, false] rfl rfl (any_of HT_.out (by kernel_rfl)) (fun _ _ _ h => h) (Or.inl ⟨by rfl, ?_⟩) ?_ ?_
                rotate_left
                · intro w'
                  go_simp
                  with_reducible rfl
                rotate_left
                · simp only [Act.put, List.setIfInBounds_toArray, List.set_cons_zero, List.set_cons_succ, i64_w, i32_w]
                  rfl
                refine pure_ (i := 8) (N := some 23) (v := ?_) (a' := ?_) #[true, true, true, true, true, true, true, true, true, false, true, false] rfl rfl (any_of HT_.out (by kernel_rfl)) (fun _ _ _ h => h) (Or.inl ⟨by rfl, ?_⟩) ?_ ?_
                rotate_left
                · intro w'
                  go_simp
                  with_reducible rfl
                rotate_left
                · simp only [Act.put, List.setIfInBounds_toArray, List.set_cons_zero, List.set_cons_succ, i64_w, i32_w]
                  rfl
                refine take_ (i := 9) (N := some 24) (v := ?_) (a' := ?_) #[true, true, true, true, true, true, true, true, true, true, true, false] rfl rfl (take_ofW HT_.out HW_.out (by kernel_rfl)) (fun _ _ _ h => h) (Or.inl ⟨by rfl, ?_⟩) hHeld ?_ ?_
                rotate_left
                · rintro w' ⟨s0, s1, s2, s3, s4, s5, s6, s7, s8⟩
                  go_simp
                  with_reducible rfl
                rotate_left
                · simp only [Act.put, List.setIfInBounds_toArray, List.set_cons_zero, List.set_cons_succ, i64_w, i32_w]
                  rfl
                refine pure_ (i := 11) (N := some 6) (v := ?_) (a' := ?_) #[true, true, true, true, true, true, true, true, true, true, true, true] rfl rfl (any_of HT_.out (by kernel_rfl)) (fun _ _ _ h => h) (Or.inl ⟨by rfl, ?_⟩) ?_ ?_
                rotate_left
                · intro w'
                  go_simp
                  with_reducible rfl
                rotate_left
                · simp only [Act.put, List.setIfInBounds_toArray, List.set_cons_zero, List.set_cons_succ, i64_w, i32_w]
                  rfl
                refine done_ (done_of HT_.out (by kernel_rfl)) ?_
                try go_wp2
                have n0_ := Aside0.mk (Kd.R_drew HO119.out)
                have n1_ := Aside0.mk (Kd.R_drew HO122.out)
                have n2_ := Aside0.mk (Kd.R_drew HO125.out)
                have n3_ := Aside0.mk (Kd.R_drew HO128.out)
                have n4_ := Aside0.mk (blk_drew BK115.out)
                have n5_ := Aside0.mk (blk_drew BK116.out)
                have n6_ := Aside0.mk (below_drew1 HB.out)
                clear HO119
                clear HO122
                clear HO125
                clear HO128
                clear BK115
                clear BK116
                clear HB
                have HO119 := n0_
                have HO122 := n1_
                have HO125 := n2_
                have HO128 := n3_
                have BK115 := n4_
                have BK116 := n5_
                have HB := n6_
                clear n0_ n1_ n2_ n3_ n4_ n5_ n6_
                obtain ⟨Ao31, co31, eo31⟩ := Kd.R_slice HO125.out
                (first | subst eo31 | (injection eo31 with f1_ f2_ f3_; have f4_ := f1_.symm; have f5_ := f3_.symm; clear f1_ f2_ f3_; subst f4_; subst f5_))
                have p130 : 0 ≤ ((ji8) : Int) := of_decide_eq_true (by first | (with_reducible assumption) | assumption)
                have q130 : (ji8) < (y123.length : Int) := of_decide_eq_true (by first | (with_reducible assumption) | assumption)
                obtain ⟨ad130, e130, hx130_0⟩ := Kd.at_string (Kd.R_reads' HO125.out).2.2 (ji8) p130 q130
                cases e130
                replace p130 := eq_true p130
                replace q130 := eq_true q130
                refine start_ (n := 20) (S := fun w' => w'.cell? ⟨gb115, 0, none⟩ = some (.int .u8 a0_0) ∧ w'.cell? ⟨gb115, 1, none⟩ = some (.int .u8 a0_1) ∧ w'.cell? ⟨gb115, 2, none⟩ = some (.int .u8 a0_2) ∧ w'.cell? ⟨gb115, 3, none⟩ = some (.int .u8 a0_3) ∧ w'.cell? ⟨gb115, 4, none⟩ = some (.int .u64 a0_4) ∧ w'.cell? ⟨gb115, 5, none⟩ = some (.bool true) ∧ w'.cell? ⟨gb115, 6, none⟩ = some (.bool a0_6) ∧ w'.cell? ⟨gb115, 7, none⟩ = some (.int .u64 a0_7) ∧ w'.cell? (ad130.add ((ji8)).toNat) = some (.string (rdOf ByteArray.empty y123 (ji8)))) (ds := []) #[false, false, false, false, false, false, false, false, false, false, false, false, false, false, false, false, false, false, false, false] (by kernel_rfl) rfl rfl ⟨(blk_cell BK115.out 0).trans rfl, (blk_cell BK115.out 1).trans rfl, (blk_cell BK115.out 2).trans rfl, (blk_cell BK115.out 3).trans rfl, (blk_cell BK115.out 4).trans rfl, (blk_cell BK115.out 5).trans rfl, (blk_cell BK115.out 6).trans rfl, (blk_cell BK115.out 7).trans rfl, hx130_0⟩ (fun hHeld => ?_); refine with_tabW latchkeylaw20_session.tab6 latchkeylaw20_session.bits6 (fun HT_ HW_ => ?_)
                generalize w28.drew = w30 at HO119 HO122 HO125 HO128 BK115 BK116 HB hx130_0 hHeld ⊢
                refine pure_ (i := 0) (N := some 25) (v := ?_) (a' := ?_) #[true, false, false, false, false, false, false, false, false, false, false, false, false, false, false, false, false, false, false, false] rfl rfl (any_of HT_.out (by kernel_rfl)) (fun _ _ _ h => h) (Or.inl ⟨by rfl, ?_⟩) ?_ ?_
                rotate_left
                · intro w'
                  go_simp
                  with_reducible rfl
                rotate_left
                · simp only [Act.put, List.setIfInBounds_toArray, List.set_cons_zero, List.set_cons_succ, i64_w, i32_w]
                  rfl
                refine pure_ (i := 2) (N := some 27) (v := ?_) (a' := ?_) #[true, false, true, false, false, false, false, false, false, false, false, false, false, false, false, false, false, false, false, false] rfl rfl (any_of HT_.out (by kernel_rfl)) (fun _ _ _ h => h) (Or.inl ⟨by rfl, ?_⟩) ?_ ?_
                rotate_left
                · intro w'
                  go_simp
                  with_reducible rfl
                rotate_left
                · simp only [Act.put, List.setIfInBounds_toArray, List.set_cons_zero, List.set_cons_succ, i64_w, i32_w]
                  rfl
                refine pure_ (i := 3) (N := some 28) (v := ?_) (a' := ?_) #[true, false, true, true, false, false, false, false, false, false, false, false, false, false, false, false, false, false, false, false] rfl rfl (any_of HT_.out (by kernel_rfl)) (fun _ _ _ h => h) (Or.inl ⟨by rfl, ?_⟩) ?_ ?_
                rotate_left
                · intro w'
                  go_simp
                  with_reducible rfl
                rotate_left
                · simp only [Act.put, List.setIfInBounds_toArray, List.set_cons_zero, List.set_cons_succ, i64_w, i32_w]
                  rfl
                refine pure_ (i := 4) (N := some 29) (v := ?_) (a' := ?_) #[true, false, true, true, true, false, false, false, false, false, false, false, false, false, false, false, false, false, false, false] rfl rfl (any_of HT_.out (by kernel_rfl)) (fun _ _ _ h => h) (Or.inl ⟨by rfl, ?_⟩) ?_ ?_
                rotate_left
                · intro w'
                  go_simp
                  with_reducible rfl
                rotate_left
                · simp only [Act.put, List.setIfInBounds_toArray, List.set_cons_zero, List.set_cons_succ, i64_w, i32_w]
                  rfl
                refine pure_ (i := 6) (N := some 31) (v := ?_) (a' := ?_) #[true, false, true, true, true, false, true, false, false, false, false, false, false, false, false, false, false, false, false, false] rfl rfl (any_of HT_.out (by kernel_rfl)) (fun _ _ _ h => h) (Or.inl ⟨by rfl, ?_⟩) ?_ ?_
                rotate_left
                · intro w'
                  go_simp
                  with_reducible rfl
                rotate_left
                · simp only [Act.put, List.setIfInBounds_toArray, List.set_cons_zero, List.set_cons_succ, i64_w, i32_w]
                  rfl
                refine pure_ (i := 9) (N := some 34) (v := ?_) (a' := ?_) #[true, false, true, true, true, false, true, false, false, true, false, false, false, false, false, false, false, false, false, false] rfl rfl (any_of HT_.out (by kernel_rfl)) (fun _ _ _ h => h) (Or.inl ⟨by rfl, ?_⟩) ?_ ?_
                rotate_left
                · intro w'
                  go_simp
                  with_reducible rfl
                rotate_left
                · simp only [Act.put, List.setIfInBounds_toArray, List.set_cons_zero, List.set_cons_succ, i64_w, i32_w]
                  rfl
                refine pure_ (i := 11) (N := some 36) (v := ?_) (a' := ?_) #[true, false, true, true, true, false, true, false, false, true, false, true, false, false, false, false, false, false, false, false] rfl rfl (any_of HT_.out (by kernel_rfl)) (fun _ _ _ h => h) (Or.inl ⟨by rfl, ?_⟩) ?_ ?_
                rotate_left
                · intro w'
                  go_simp
                  with_reducible rfl
                rotate_left
                · simp only [Act.put, List.setIfInBounds_toArray, List.set_cons_zero, List.set_cons_succ, i64_w, i32_w]
                  rfl
                refine pure_ (i := 13) (N := some 38) (v := ?_) (a' := ?_) #[true, false, true, true, true, false, true, false, false, true, false, true, false, true, false, false, false, false, false, false] rfl rfl (any_of HT_.out (by kernel_rfl)) (fun _ _ _ h => h) (Or.inl ⟨by rfl, ?_⟩) ?_ ?_
                rotate_left
                · intro w'
                  go_simp
                  with_reducible rfl
                rotate_left
                · simp only [Act.put, List.setIfInBounds_toArray, List.set_cons_zero, List.set_cons_succ, i64_w, i32_w]
                  rfl
                refine pure_ (i := 15) (N := some 40) (v := ?_) (a' := ?_) #[true, false, true, true, true, false, true, false, false, true, false, true, false, true, false, true, false, false, false, false] rfl rfl (any_of HT_.out (by kernel_rfl)) (fun _ _ _ h => h) (Or.inl ⟨by rfl, ?_⟩) ?_ ?_
                rotate_left
                · intro w'
                  go_simp
                  with_reducible rfl
                rotate_left
                · simp only [Act.put, List.setIfInBounds_toArray, List.set_cons_zero, List.set_cons_succ, i64_w, i32_w]
                  rfl
                refine take_ (i := 1) (N := some 26) (v := ?_) (a' := ?_) #[true, true, true, true, true, false, true, false, false, true, false, true, false, true, false, true, false, false, false, false] rfl rfl (take_ofW HT_.out HW_.out (by kernel_rfl)) (fun _ _ _ h => h) (Or.inl ⟨by rfl, ?_⟩) hHeld ?_ ?_
                rotate_left
                · rintro w' ⟨s0, s1, s2, s3, s4, s5, s6, s7, s8⟩
                  go_simp
                  with_reducible rfl
                rotate_left
                · simp only [Act.put, List.setIfInBounds_toArray, List.set_cons_zero, List.set_cons_succ, i64_w, i32_w]
                  rfl
                refine take_ (i := 5) (N := some 30) (v := ?_) (a' := ?_) #[true, true, true, true, true, true, true, false, false, true, false, true, false, true, false, true, false, false, false, false] rfl rfl (take_ofW HT_.out HW_.out (by kernel_rfl)) (fun _ _ _ h => h) (Or.inl ⟨by rfl, ?_⟩) hHeld ?_ ?_
                rotate_left
                · rintro w' ⟨s0, s1, s2, s3, s4, s5, s6, s7, s8⟩
                  go_simp
                  with_reducible rfl
                rotate_left
                · simp only [Act.put, List.setIfInBounds_toArray, List.set_cons_zero, List.set_cons_succ, i64_w, i32_w]
                  rfl
                refine take_ (i := 7) (N := some 32) (v := ?_) (a' := ?_) #[true, true, true, true, true, true, true, true, false, true, false, true, false, true, false, true, false, false, false, false] rfl rfl (take_ofW HT_.out HW_.out (by kernel_rfl)) (fun _ _ _ h => h) (Or.inl ⟨by rfl, ?_⟩) hHeld ?_ ?_
                rotate_left
                · rintro w' ⟨s0, s1, s2, s3, s4, s5, s6, s7, s8⟩
                  go_simp
                  with_reducible rfl
                rotate_left
                · simp only [Act.put, List.setIfInBounds_toArray, List.set_cons_zero, List.set_cons_succ, i64_w, i32_w]
                  rfl
                refine pure_ (i := 8) (N := some 33) (v := ?_) (a' := ?_) #[true, true, true, true, true, true, true, true, true, true, false, true, false, true, false, true, false, false, false, false] rfl rfl (any_of HT_.out (by kernel_rfl)) (fun _ _ _ h => h) (Or.inl ⟨by rfl, ?_⟩) ?_ ?_
                rotate_left
                · intro w'
                  go_simp
                  with_reducible rfl
                rotate_left
                · simp only [Act.put, List.setIfInBounds_toArray, List.set_cons_zero, List.set_cons_succ, i64_w, i32_w]
                  rfl
                refine take_ (i := 12) (N := some 37) (v := ?_) (a' := ?_) #[true, true, true, true, true, true, true, true, true, true, false, true, true, true, false, true, false, false, false, false] rfl rfl (take_ofW HT_.out HW_.out (by kernel_rfl)) (fun _ _ _ h => h) (Or.inl ⟨by rfl, ?_⟩) hHeld ?_ ?_
                rotate_left
                · rintro w' ⟨s0, s1, s2, s3, s4, s5, s6, s7, s8⟩
                  go_simp
                  with_reducible rfl
                rotate_left
                · simp only [Act.put, List.setIfInBounds_toArray, List.set_cons_zero, List.set_cons_succ, i64_w, i32_w]
                  rfl
                refine take_ (i := 14) (N := some 39) (v := ?_) (a' := ?_) #[true, true, true, true, true, true, true, true, true, true, false, true, true, true, true, true, false, false, false, false] rfl rfl (take_ofW HT_.out HW_.out (by kernel_rfl)) (fun _ _ _ h => h) (Or.inl ⟨by rfl, ?_⟩) hHeld ?_ ?_
                rotate_left
                · rintro w' ⟨s0, s1, s2, s3, s4, s5, s6, s7, s8⟩
                  go_simp
                  with_reducible rfl
                rotate_left
                · simp only [Act.put, List.setIfInBounds_toArray, List.set_cons_zero, List.set_cons_succ, i64_w, i32_w]
                  rfl
                refine take_ (i := 16) (N := some 41) (v := ?_) (a' := ?_) #[true, true, true, true, true, true, true, true, true, true, false, true, true, true, true, true, true, false, false, false] rfl rfl (take_ofW HT_.out HW_.out (by kernel_rfl)) (fun _ _ _ h => h) (Or.inl ⟨by rfl, ?_⟩) hHeld ?_ ?_
                rotate_left
                · rintro w' ⟨s0, s1, s2, s3, s4, s5, s6, s7, s8⟩
                  go_simp
                  with_reducible rfl
                rotate_left
                · simp only [Act.put, List.setIfInBounds_toArray, List.set_cons_zero, List.set_cons_succ, i64_w, i32_w]
                  rfl
                refine pure_ (i := 17) (N := some 42) (v := ?_) (a' := ?_) #[true, true, true, true, true, true, true, true, true, true, false, true, true, true, true, true, true, true, false, false] rfl rfl (any_of HT_.out (by kernel_rfl)) (fun _ _ _ h => h) (Or.inl ⟨by rfl, ?_⟩) ?_ ?_
                rotate_left
                · intro w'
                  go_simp
                  with_reducible rfl
                rotate_left
                · simp only [Act.put, List.setIfInBounds_toArray, List.set_cons_zero, List.set_cons_succ, i64_w, i32_w]
                  rfl
                refine one_ (i := 10) (N := some 35) #[true, true, true, true, true, true, true, true, true, true, true, true, true, true, true, true, true, true, false, false] rfl rfl (one_of HT_.out (by kernel_rfl)) (by decide) (fun K hK => ?_)
                refine goes_ Try.func10 (by kernel_rfl) rfl #[.int .u8 (Int.tmod a0_2 12), .int .i64 (rd y126 (ji5))] (by rfl) rfl rfl (by (try simp only [List.map_toArray, List.map_cons, List.map_nil]); first | done | (simp only [hji5]; rfl) | rfl | (simp only [List.length_drop, List.length_take]; rfl)) ?_
                with_reducible refine (latchkeyhand18_Draw.calls k (Int.tmod a0_2 12) (rd y126 (ji5)) t131 _ A11.out).mono ?_
                rintro e w32 ⟨v132, rfl, ho0, hb⟩
                have HS8_ := (hb.cell (World.block_lt_of_cell? _ _ (hHeld.2.2.2.2.2.2.2.2))).trans (hHeld.2.2.2.2.2.2.2.2)
                refine ⟨_, rfl, ?_⟩
                have n0_ := Aside0.mk (Kd.R_elder' (by (with_reducible repeat (first | apply Kd.R_alloc | apply Kd.R_drewN | apply Kd.R_drew)); exact HO119.out) (Kd.R_base ho0) hb)
                have n1_ := Aside0.mk (Kd.R_elder' (by (with_reducible repeat (first | apply Kd.R_alloc | apply Kd.R_drewN | apply Kd.R_drew)); exact HO122.out) (Kd.R_base ho0) hb)
                have n2_ := Aside0.mk (Kd.R_below (by (with_reducible repeat (first | apply Kd.R_alloc | apply Kd.R_drewN | apply Kd.R_drew)); exact HO125.out) hb)
                have n3_ := Aside0.mk (Kd.R_below (by (with_reducible repeat (first | apply Kd.R_alloc | apply Kd.R_drewN | apply Kd.R_drew)); exact HO128.out) hb)
                have n4_ := Aside0.mk (Kd.R_lower (Kd.R_new' (Kd.R_new' ho0 (Kd.R_lt (by (with_reducible repeat (first | apply Kd.R_alloc | apply Kd.R_drewN | apply Kd.R_drew)); exact HO119.out))) (Kd.R_lt (by (with_reducible repeat (first | apply Kd.R_alloc | apply Kd.R_drewN | apply Kd.R_drew)); exact HO122.out))) (below_size (by repeat (first | (with_reducible first | exact HB.out | apply below_alloc | apply pw_below_drewN | apply below_drew1 | refine below_set ?_ GE115.out | refine below_set ?_ GE116.out) | exact HB.out))))
                have n5_ := Aside0.mk (blk_below (g := gb115) (o := .cells #[.int .u8 a0_0, .int .u8 a0_1, .int .u8 a0_2, .int .u8 a0_3, .int .u64 a0_4, .bool true, .bool a0_6, .int .u64 a0_7] 47 (0, 0)) (by (with_reducible repeat (first | refine blk_drewN ?_ _ | refine blk_drew ?_ | refine blk_alloc ?_ _)); exact BK115.out) hb)
                have n6_ := Aside0.mk (blk_below (g := gb116) (o := .cells #[.int .u64 0, .string (⟨#[]⟩ : ByteArray), .slice none 0 0, .int .u64 0, .bool false, .bool false] 34 (0, 0)) (by (with_reducible repeat (first | refine blk_drewN ?_ _ | refine blk_drew ?_ | refine blk_alloc ?_ _)); exact BK116.out) hb)
                have n7_ := Aside0.mk (below_step (by repeat (first | (with_reducible first | exact HB.out | apply below_alloc | apply pw_below_drewN | apply below_drew1 | refine below_set ?_ GE115.out | refine below_set ?_ GE116.out) | exact HB.out)) hb)
                clear HO119
                clear HO122
                clear HO125
                clear HO128
                clear BK115
                clear BK116
                clear HB
                have HO119 := n0_
                have HO122 := n1_
                have HO125 := n2_
                have HO128 := n3_
                have HO133 := n4_
                have BK115 := n5_
                have BK116 := n6_
                have HB := n7_
                clear n0_ n1_ n2_ n3_ n4_ n5_ n6_ n7_
                (try clear hb)
                (try clear hb2)
                (try clear hk)
                (try clear hi)
                (try clear ho0)
                obtain ⟨Ao33, co33, eo33⟩ := Kd.R_slice HO133.out
                (first | subst eo33 | (injection eo33 with f1_ f2_ f3_; have f4_ := f1_.symm; have f5_ := f3_.symm; clear f1_ f2_ f3_; subst f4_; subst f5_))
                refine hK.out _ _ ⟨(blk_cell BK115.out 0).trans rfl, (blk_cell BK115.out 1).trans rfl, (blk_cell BK115.out 2).trans rfl, (blk_cell BK115.out 3).trans rfl, (blk_cell BK115.out 4).trans rfl, (blk_cell BK115.out 5).trans rfl, (blk_cell BK115.out 6).trans rfl, (blk_cell BK115.out 7).trans rfl, HS8_⟩ (fun hHeld => ?_)
                clear hK K
                refine norm_ (a' := ?_) ?_ ?_
                rotate_left
                · show Act.put _ (some 35) _ = _
                  simp only [Act.put, List.setIfInBounds_toArray, List.set_cons_zero, List.set_cons_succ, i64_w, i32_w]
                  rfl
                refine pure_ (i := 18) (N := some 43) (v := ?_) (a' := ?_) #[true, true, true, true, true, true, true, true, true, true, true, true, true, true, true, true, true, true, true, false] rfl rfl (any_of HT_.out (by kernel_rfl)) (fun _ _ _ h => h) (Or.inl ⟨by rfl, ?_⟩) ?_ ?_
                rotate_left
                · intro w'
                  go_simp
                  with_reducible rfl
                rotate_left
                · simp only [Act.put, List.setIfInBounds_toArray, List.set_cons_zero, List.set_cons_succ, i64_w, i32_w]
                  rfl
                refine one_ (i := 19) (N := none) #[true, true, true, true, true, true, true, true, true, true, true, true, true, true, true, true, true, true, true, true] rfl rfl (one_of HT_.out (by kernel_rfl)) (by decide) (fun K hK => ?_)
                have hs34 : w32.cell? ⟨gb116, 0, none⟩ = some (.int .u64 0) := (blk_cell BK116.out 0).trans rfl
                have hfs34 := blk_frozen BK116.out 0
                have hns34_0 := NB115_116.out
                have hms34_0 := NB116_115.out
                have hs35 : w32.cell? ⟨gb116, 1, none⟩ = some (.string (⟨#[]⟩ : ByteArray)) := (blk_cell BK116.out 1).trans rfl
                have hfs35 := blk_frozen BK116.out 1
                have hns35_0 := NB115_116.out
                have hms35_0 := NB116_115.out
                have hs36 : w32.cell? ⟨gb116, 2, none⟩ = some (.slice none 0 0) := (blk_cell BK116.out 2).trans rfl
                have hfs36 := blk_frozen BK116.out 2
                have hns36_0 := NB115_116.out
                have hms36_0 := NB116_115.out
                have hs37 : w32.cell? ⟨gb116, 3, none⟩ = some (.int .u64 0) := (blk_cell BK116.out 3).trans rfl
                have hfs37 := blk_frozen BK116.out 3
                have hns37_0 := NB115_116.out
                have hms37_0 := NB116_115.out
                have hs38 : w32.cell? ⟨gb116, 4, none⟩ = some (.bool false) := (blk_cell BK116.out 4).trans rfl
                have hfs38 := blk_frozen BK116.out 4
                have hns38_0 := NB115_116.out
                have hms38_0 := NB116_115.out
                have hs39 : w32.cell? ⟨gb116, 5, none⟩ = some (.bool false) := (blk_cell BK116.out 5).trans rfl
                have hfs39 := blk_frozen BK116.out 5
                have hns39_0 := NB115_116.out
                have hms39_0 := NB116_115.out
                refine skip_ (w1 := ?_) (by rfl) rfl ?_ ?_
                rotate_left
                · go_simp
                  rfl
                refine hK.out _ _ ⟨((cell_far (p := ⟨gb116, _, none⟩) NB115_116.out _).trans (((cell_far (p := ⟨gb116, _, none⟩) NB115_116.out _).trans (((cell_far (p := ⟨gb116, _, none⟩) NB115_116.out _).trans (((cell_far (p := ⟨gb116, _, none⟩) NB115_116.out _).trans (((cell_far (p := ⟨gb116, _, none⟩) NB115_116.out _).trans (((cell_far (p := ⟨gb116, _, none⟩) NB115_116.out _).trans (hHeld.1)))))))))))), ((cell_far (p := ⟨gb116, _, none⟩) NB115_116.out _).trans (((cell_far (p := ⟨gb116, _, none⟩) NB115_116.out _).trans (((cell_far (p := ⟨gb116, _, none⟩) NB115_116.out _).trans (((cell_far (p := ⟨gb116, _, none⟩) NB115_116.out _).trans (((cell_far (p := ⟨gb116, _, none⟩) NB115_116.out _).trans (((cell_far (p := ⟨gb116, _, none⟩) NB115_116.out _).trans (hHeld.2.1)))))))))))), ((cell_far (p := ⟨gb116, _, none⟩) NB115_116.out _).trans (((cell_far (p := ⟨gb116, _, none⟩) NB115_116.out _).trans (((cell_far (p := ⟨gb116, _, none⟩) NB115_116.out _).trans (((cell_far (p := ⟨gb116, _, none⟩) NB115_116.out _).trans (((cell_far (p := ⟨gb116, _, none⟩) NB115_116.out _).trans (((cell_far (p := ⟨gb116, _, none⟩) NB115_116.out _).trans (hHeld.2.2.1)))))))))))), ((cell_far (p := ⟨gb116, _, none⟩) NB115_116.out _).trans (((cell_far (p := ⟨gb116, _, none⟩) NB115_116.out _).trans (((cell_far (p := ⟨gb116, _, none⟩) NB115_116.out _).trans (((cell_far (p := ⟨gb116, _, none⟩) NB115_116.out _).trans (((cell_far (p := ⟨gb116, _, none⟩) NB115_116.out _).trans (((cell_far (p := ⟨gb116, _, none⟩) NB115_116.out _).trans (hHeld.2.2.2.1)))))))))))), ((cell_far (p := ⟨gb116, _, none⟩) NB115_116.out _).trans (((cell_far (p := ⟨gb116, _, none⟩) NB115_116.out _).trans (((cell_far (p := ⟨gb116, _, none⟩) NB115_116.out _).trans (((cell_far (p := ⟨gb116, _, none⟩) NB115_116.out _).trans (((cell_far (p := ⟨gb116, _, none⟩) NB115_116.out _).trans (((cell_far (p := ⟨gb116, _, none⟩) NB115_116.out _).trans (hHeld.2.2.2.2.1)))))))))))), ((cell_far (p := ⟨gb116, _, none⟩) NB115_116.out _).trans (((cell_far (p := ⟨gb116, _, none⟩) NB115_116.out _).trans (((cell_far (p := ⟨gb116, _, none⟩) NB115_116.out _).trans (((cell_far (p := ⟨gb116, _, none⟩) NB115_116.out _).trans (((cell_far (p := ⟨gb116, _, none⟩) NB115_116.out _).trans (((cell_far (p := ⟨gb116, _, none⟩) NB115_116.out _).trans (hHeld.2.2.2.2.2.1)))))))))))), ((cell_far (p := ⟨gb116, _, none⟩) NB115_116.out _).trans (((cell_far (p := ⟨gb116, _, none⟩) NB115_116.out _).trans (((cell_far (p := ⟨gb116, _, none⟩) NB115_116.out _).trans (((cell_far (p := ⟨gb116, _, none⟩) NB115_116.out _).trans (((cell_far (p := ⟨gb116, _, none⟩) NB115_116.out _).trans (((cell_far (p := ⟨gb116, _, none⟩) NB115_116.out _).trans (hHeld.2.2.2.2.2.2.1)))))))))))), ((cell_far (p := ⟨gb116, _, none⟩) NB115_116.out _).trans (((cell_far (p := ⟨gb116, _, none⟩) NB115_116.out _).trans (((cell_far (p := ⟨gb116, _, none⟩) NB115_116.out _).trans (((cell_far (p := ⟨gb116, _, none⟩) NB115_116.out _).trans (((cell_far (p := ⟨gb116, _, none⟩) NB115_116.out _).trans (((cell_far (p := ⟨gb116, _, none⟩) NB115_116.out _).trans (hHeld.2.2.2.2.2.2.2.1)))))))))))), ((cell_far (p := ⟨gb116, _, none⟩) (by first | exact Kd.own_blk (Kd.R_ne HO125.out BK116.out (by decide)) | (rw [add_block]; exact Kd.own_blk (Kd.R_ne HO125.out BK116.out (by decide))) | (show (Addr.add _ _).block ≠ _; rw [add_block]; exact Kd.own_blk (Kd.R_ne HO125.out BK116.out (by decide))) | (dsimp only; exact Kd.own_blk (Kd.R_ne HO125.out BK116.out (by decide)))) _).trans (((cell_far (p := ⟨gb116, _, none⟩) (by first | exact Kd.own_blk (Kd.R_ne HO125.out BK116.out (by decide)) | (rw [add_block]; exact Kd.own_blk (Kd.R_ne HO125.out BK116.out (by decide))) | (show (Addr.add _ _).block ≠ _; rw [add_block]; exact Kd.own_blk (Kd.R_ne HO125.out BK116.out (by decide))) | (dsimp only; exact Kd.own_blk (Kd.R_ne HO125.out BK116.out (by decide)))) _).trans (((cell_far (p := ⟨gb116, _, none⟩) (by first | exact Kd.own_blk (Kd.R_ne HO125.out BK116.out (by decide)) | (rw [add_block]; exact Kd.own_blk (Kd.R_ne HO125.out BK116.out (by decide))) | (show (Addr.add _ _).block ≠ _; rw [add_block]; exact Kd.own_blk (Kd.R_ne HO125.out BK116.out (by decide))) | (dsimp only; exact Kd.own_blk (Kd.R_ne HO125.out BK116.out (by decide)))) _).trans (((cell_far (p := ⟨gb116, _, none⟩) (by first | exact Kd.own_blk (Kd.R_ne HO125.out BK116.out (by decide)) | (rw [add_block]; exact Kd.own_blk (Kd.R_ne HO125.out BK116.out (by decide))) | (show (Addr.add _ _).block ≠ _; rw [add_block]; exact Kd.own_blk (Kd.R_ne HO125.out BK116.out (by decide))) | (dsimp only; exact Kd.own_blk (Kd.R_ne HO125.out BK116.out (by decide)))) _).trans (((cell_far (p := ⟨gb116, _, none⟩) (by first | exact Kd.own_blk (Kd.R_ne HO125.out BK116.out (by decide)) | (rw [add_block]; exact Kd.own_blk (Kd.R_ne HO125.out BK116.out (by decide))) | (show (Addr.add _ _).block ≠ _; rw [add_block]; exact Kd.own_blk (Kd.R_ne HO125.out BK116.out (by decide))) | (dsimp only; exact Kd.own_blk (Kd.R_ne HO125.out BK116.out (by decide)))) _).trans (((cell_far (p := ⟨gb116, _, none⟩) (by first | exact Kd.own_blk (Kd.R_ne HO125.out BK116.out (by decide)) | (rw [add_block]; exact Kd.own_blk (Kd.R_ne HO125.out BK116.out (by decide))) | (show (Addr.add _ _).block ≠ _; rw [add_block]; exact Kd.own_blk (Kd.R_ne HO125.out BK116.out (by decide))) | (dsimp only; exact Kd.own_blk (Kd.R_ne HO125.out BK116.out (by decide)))) _).trans (hHeld.2.2.2.2.2.2.2.2))))))))))))⟩ (fun hHeld => ?_)
                clear hK K
                refine done_ (done_of HT_.out (by kernel_rfl)) ?_
                try go_wp2
                refine bodyPost_ret (results_cell_row rfl _ _ gb116 34 #[.int .u64 a0_4, .string (rdOf ByteArray.empty y123 (ji8)), .slice Ao33 t131.length co33, .int .u64 a0_7, .bool a0_6, .bool (!a0_6)] (0, 0) _ rfl (by (with_reducible repeat (first | refine blk_drewN ?_ _ | refine blk_drew ?_ | refine blk_alloc ?_ _)); refine blk_put (cs := #[.int .u64 a0_4, .string (rdOf ByteArray.empty y123 (ji8)), .slice Ao33 t131.length co33, .int .u64 a0_7, .bool a0_6, .bool false]) ?_ 5 _ rfl; (with_reducible repeat (first | refine blk_drewN ?_ _ | refine blk_drew ?_ | refine blk_alloc ?_ _)); refine blk_put (cs := #[.int .u64 a0_4, .string (rdOf ByteArray.empty y123 (ji8)), .slice Ao33 t131.length co33, .int .u64 a0_7, .bool false, .bool false]) ?_ 4 _ rfl; (with_reducible repeat (first | refine blk_drewN ?_ _ | refine blk_drew ?_ | refine blk_alloc ?_ _)); refine blk_put (cs := #[.int .u64 a0_4, .string (rdOf ByteArray.empty y123 (ji8)), .slice Ao33 t131.length co33, .int .u64 0, .bool false, .bool false]) ?_ 3 _ rfl; (with_reducible repeat (first | refine blk_drewN ?_ _ | refine blk_drew ?_ | refine blk_alloc ?_ _)); refine blk_put (cs := #[.int .u64 a0_4, .string (rdOf ByteArray.empty y123 (ji8)), .slice none 0 0, .int .u64 0, .bool false, .bool false]) ?_ 2 _ rfl; (with_reducible repeat (first | refine blk_drewN ?_ _ | refine blk_drew ?_ | refine blk_alloc ?_ _)); refine blk_put (cs := #[.int .u64 a0_4, .string (⟨#[]⟩ : ByteArray), .slice none 0 0, .int .u64 0, .bool false, .bool false]) ?_ 1 _ rfl; (with_reducible repeat (first | refine blk_drewN ?_ _ | refine blk_drew ?_ | refine blk_alloc ?_ _)); refine blk_put (cs := #[.int .u64 0, .string (⟨#[]⟩ : ByteArray), .slice none 0 0, .int .u64 0, .bool false, .bool false]) ?_ 0 _ rfl; (with_reducible repeat (first | refine blk_drewN ?_ _ | refine blk_drew ?_ | refine blk_alloc ?_ _)); exact BK116.out) Try.underlying34 rfl (by kernel_rfl)) rfl ?_
                exact ⟨_, by first | rfl | (simp [errW_none, errW_some] <;> rfl) | (simp only [← hji5, ← hji8]; first | rfl | (simp [errW_none, errW_some] <;> rfl)) | (simp [*, errW_none, errW_some] <;> rfl), by (with_reducible repeat (first | apply Kd.R_alloc | apply Kd.R_drewN | apply Kd.R_drew)); exact Kd.R_mono (Kd.R_far (p := ⟨gb116, 5, none⟩) (Kd.R_far (p := ⟨gb116, 4, none⟩) (Kd.R_far (p := ⟨gb116, 3, none⟩) (Kd.R_far (p := ⟨gb116, 2, none⟩) (Kd.R_far (p := ⟨gb116, 1, none⟩) (Kd.R_far (p := ⟨gb116, 0, none⟩) (Kd.R_types HO133.out BK116.out (by decide)) (fun _ hk => hk.2) (.int .u64 a0_4)) (fun _ hk => hk.2) (.string (rdOf ByteArray.empty y123 (ji8)))) (fun _ hk => hk.2) (.slice Ao33 t131.length co33)) (fun _ hk => hk.2) (.int .u64 a0_7)) (fun _ hk => hk.2) (.bool a0_6)) (fun _ hk => hk.2) (.bool (!a0_6))) (fun _ hk => trivial), by repeat (first | (with_reducible first | exact HB.out | apply below_alloc | apply pw_below_drewN | apply below_drew1 | refine below_set ?_ GE115.out | refine below_set ?_ GE116.out) | exact HB.out)⟩
              · rw [if_neg c10] at H
                exact absurd H (by simp)
            · rw [if_neg c9] at H
              exact absurd H (by simp)
          · rw [if_neg c7] at H
            exact absurd H (by simp)
        · rw [if_neg c6] at H
          exact absurd H (by simp)
      · replace c4 := Bool.eq_false_iff.mpr c4
        subst c4
        have H1 : (if 0 < (y123.length : Int) then ((latchkeyhand18_Draw.f k (Int.tmod a0_2 12) 20).bind fun t135 => (some (a0_4, rdOf ByteArray.empty y123 0, t135, a0_7, a0_6, !a0_6))) else (none)) = some (r1, r2, r3, r4, r5, r6) := by rw [if_neg (show ¬ (false = true) by decide)] at H; exact H
        clear H
        have H := H1
        clear H1
        by_cases c40 : 0 < (y123.length : Int)
        · rw [if_pos c40] at H
          have c40b0 : decide (0 < (y123.length : Int)) = true := decide_eq_true c40
          have c40b1 : decide (0 < y123.length) = true := decide_eq_true (by omega)
          clear c40
          replace H := Option.bind_eq_some_iff.mp H
          obtain ⟨t135, A410, H⟩ := H
          replace H : (some (a0_4, rdOf ByteArray.empty y123 0, t135, a0_7, a0_6, !a0_6)) = some (r1, r2, r3, r4, r5, r6) := H
          have A41 := Aside0.mk A410
          clear A410
          simp only [Option.some.injEq, Prod.mk.injEq] at H
          obtain ⟨rfl, rfl, rfl, rfl, rfl, rfl⟩ := H
          go_enter Try.func12, Try.ntmps12
          try go_wp2_with (first | ((with_reducible refine gate_dst (N := 1) rfl ?_); refine box_event ?hg (N := 1) ?hd (cs := #[.int .u8 a0_0, .int .u8 a0_1, .int .u8 a0_2, .int .u8 a0_3, .int .u64 a0_4, .bool false, .bool a0_6, .int .u64 a0_7]) (t := 47) ?hr ?_; (case hd => rfl); (case hg => rfl); (case hr => first | (go_simp; done) | (go_simp; rfl)); intro gb115 hg w42 hbox hb; have n0_ := Aside0.mk (below_step (by repeat (first | (with_reducible first | exact HB.out | apply below_alloc | apply pw_below_drewN | apply below_drew1) | exact HB.out)) hb); have n1_ := Aside0.mk (hbox); have n2_ := Aside0.mk ((by rw [hg]; exact (below_size (by repeat (first | (with_reducible first | exact HB.out | apply below_alloc | apply pw_below_drewN | apply below_drew1) | exact HB.out))) : w.heap.size ≤ gb115)); have n3_ := Aside0.mk ((by rw [hg]; exact (below_size (by repeat (first | (with_reducible first | exact HB.out | apply below_alloc | apply pw_below_drewN | apply below_drew1) | exact HB.out))) : w.heap.size ≤ gb115)); clear HB; have HB := n0_; have BK115 := n1_; have GW115 := n2_; have GE115 := n3_; clear n0_ n1_ n2_ n3_; clear hb hbox hg) | ((with_reducible refine gate_dst (N := 2) rfl ?_); refine box_event ?hg (N := 2) ?hd (cs := #[.int .u64 0, .string (⟨#[]⟩ : ByteArray), .slice none 0 0, .int .u64 0, .bool false, .bool false]) (t := 34) ?hr ?_; (case hd => rfl); (case hg => rfl); (case hr => first | (go_simp; done) | (go_simp; rfl)); intro gb116 hg w43 hbox hb; have n0_ := Aside0.mk (blk_below (g := gb115) (o := .cells #[.int .u8 a0_0, .int .u8 a0_1, .int .u8 a0_2, .int .u8 a0_3, .int .u64 a0_4, .bool false, .bool a0_6, .int .u64 a0_7] 47 (0, 0)) (by (with_reducible repeat (first | refine blk_drewN ?_ _ | refine blk_drew ?_ | refine blk_alloc ?_ _)); exact BK115.out) hb); have n1_ := Aside0.mk (below_step (by repeat (first | (with_reducible first | exact HB.out | apply below_alloc | apply pw_below_drewN | apply below_drew1 | refine below_set ?_ GE115.out) | exact HB.out)) hb); have n2_ := Aside0.mk (hbox); have n3_ := Aside0.mk ((by rw [hg]; exact (below_size (by repeat (first | (with_reducible first | exact HB.out | apply below_alloc | apply pw_below_drewN | apply below_drew1 | refine below_set ?_ GE115.out) | exact HB.out))) : w.heap.size ≤ gb116)); have n4_ := Aside0.mk ((by rw [hg]; exact (below_size (by repeat (first | (with_reducible first | exact HB.out | apply below_alloc | apply pw_below_drewN | apply below_drew1 | refine below_set ?_ GE115.out) | exact HB.out))) : w.heap.size ≤ gb116)); have n5_ := Aside0.mk ((by rw [hg]; exact Nat.ne_of_lt (blk_lt (g := gb115) (o := .cells #[.int .u8 a0_0, .int .u8 a0_1, .int .u8 a0_2, .int .u8 a0_3, .int .u64 a0_4, .bool false, .bool a0_6, .int .u64 a0_7] 47 (0, 0)) (by (with_reducible repeat (first | refine blk_drewN ?_ _ | refine blk_drew ?_ | refine blk_alloc ?_ _)); exact BK115.out)) : gb115 ≠ gb116)); have n6_ := Aside0.mk ((by rw [hg]; exact Nat.ne_of_gt (blk_lt (g := gb115) (o := .cells #[.int .u8 a0_0, .int .u8 a0_1, .int .u8 a0_2, .int .u8 a0_3, .int .u64 a0_4, .bool false, .bool a0_6, .int .u64 a0_7] 47 (0, 0)) (by (with_reducible repeat (first | refine blk_drewN ?_ _ | refine blk_drew ?_ | refine blk_alloc ?_ _)); exact BK115.out)) : gb116 ≠ gb115)); clear BK115; clear HB; have BK115 := n0_; have HB := n1_; have BK116 := n2_; have GW116 := n3_; have GE116 := n4_; have NB115_116 := n5_; have NB116_115 := n6_; clear n0_ n1_ n2_ n3_ n4_ n5_ n6_; clear hb hbox hg))
          have n0_ := Aside0.mk (blk_drew BK115.out)
          have n1_ := Aside0.mk (blk_drew BK116.out)
          have n2_ := Aside0.mk (below_drew1 HB.out)
          clear BK115
          clear BK116
          clear HB
          have BK115 := n0_
          have BK116 := n1_
          have HB := n2_
          clear n0_ n1_ n2_
          refine start_ (n := 6) (S := fun w' => True) (ds := []) #[false, false, false, false, false, false] (by kernel_rfl) rfl rfl trivial (fun hHeld => ?_)
          generalize w43.drew = w44 at BK115 BK116 HB hHeld ⊢
          refine join_ (σ := Value × Value) 2 #[true, true, true, true, false, false] (fun s_ => [(7, s_.1), (8, .string (strOfNums y117)), (9, s_.2), (10, .string (strOfNums y120))]) (fun s_ w' => (Kd.R (Kd.int .u8) 5 w' w.heap.size (fun k_ => some k_ ≠ (s_.2 : Value).ownBlock) s_.1 y117) ∧ (Kd.R (Kd.int .u8) 5 w' w.heap.size (fun k_ => some k_ ≠ (s_.1 : Value).ownBlock) s_.2 y120) ∧ (w'.heap[gb115]? = some (.cells #[.int .u8 a0_0, .int .u8 a0_1, .int .u8 a0_2, .int .u8 a0_3, .int .u64 a0_4, .bool false, .bool a0_6, .int .u64 a0_7] 47 (0, 0))) ∧ (w'.heap[gb116]? = some (.cells #[.int .u64 0, .string (⟨#[]⟩ : ByteArray), .slice none 0 0, .int .u64 0, .bool false, .bool false] 34 (0, 0))) ∧ (Below w.heap.size w w')) ?_ ?_
          rotate_left
          · intro hJ0_1_2_3
            refine join_ (σ := Value × Value) 3 #[true, true, true, false, false, false] (fun s_ => [(7, s_.1), (8, .string (strOfNums y117)), (9, s_.2)]) (fun s_ w' => (Kd.R (Kd.int .u8) 5 w' w.heap.size (fun k_ => some k_ ≠ (s_.2 : Value).ownBlock) s_.1 y117) ∧ (Kd.R (Kd.int .u8) 5 w' w.heap.size (fun k_ => some k_ ≠ (s_.1 : Value).ownBlock) s_.2 y120) ∧ (w'.heap[gb115]? = some (.cells #[.int .u8 a0_0, .int .u8 a0_1, .int .u8 a0_2, .int .u8 a0_3, .int .u64 a0_4, .bool false, .bool a0_6, .int .u64 a0_7] 47 (0, 0))) ∧ (w'.heap[gb116]? = some (.cells #[.int .u64 0, .string (⟨#[]⟩ : ByteArray), .slice none 0 0, .int .u64 0, .bool false, .bool false] 34 (0, 0))) ∧ (Below w.heap.size w w')) ?_ ?_
            rotate_left
            · intro hJ0_1_2
              refine join_ (σ := Value × Value) 3 #[true, false, true, true, false, false] (fun s_ => [(7, s_.1), (9, s_.2), (10, .string (strOfNums y120))]) (fun s_ w' => (Kd.R (Kd.int .u8) 5 w' w.heap.size (fun k_ => some k_ ≠ (s_.2 : Value).ownBlock) s_.1 y117) ∧ (Kd.R (Kd.int .u8) 5 w' w.heap.size (fun k_ => some k_ ≠ (s_.1 : Value).ownBlock) s_.2 y120) ∧ (w'.heap[gb115]? = some (.cells #[.int .u8 a0_0, .int .u8 a0_1, .int .u8 a0_2, .int .u8 a0_3, .int .u64 a0_4, .bool false, .bool a0_6, .int .u64 a0_7] 47 (0, 0))) ∧ (w'.heap[gb116]? = some (.cells #[.int .u64 0, .string (⟨#[]⟩ : ByteArray), .slice none 0 0, .int .u64 0, .bool false, .bool false] 34 (0, 0))) ∧ (Below w.heap.size w w')) ?_ ?_
              rotate_left
              · intro hJ0_2_3
                refine join_ (σ := Value) 4 #[true, true, false, false, false, false] (fun s_ => [(7, s_), (8, .string (strOfNums y117))]) (fun s_ w' => (Kd.R (Kd.int .u8) 5 w' w.heap.size (fun _ => True) s_ y117) ∧ (w'.heap[gb115]? = some (.cells #[.int .u8 a0_0, .int .u8 a0_1, .int .u8 a0_2, .int .u8 a0_3, .int .u64 a0_4, .bool false, .bool a0_6, .int .u64 a0_7] 47 (0, 0))) ∧ (w'.heap[gb116]? = some (.cells #[.int .u64 0, .string (⟨#[]⟩ : ByteArray), .slice none 0 0, .int .u64 0, .bool false, .bool false] 34 (0, 0))) ∧ (Below w.heap.size w w')) ?_ ?_
                rotate_left
                · intro hJ0_1
                  refine join_ (σ := Value × Value) 4 #[true, false, true, false, false, false] (fun s_ => [(7, s_.1), (9, s_.2)]) (fun s_ w' => (Kd.R (Kd.int .u8) 5 w' w.heap.size (fun k_ => some k_ ≠ (s_.2 : Value).ownBlock) s_.1 y117) ∧ (Kd.R (Kd.int .u8) 5 w' w.heap.size (fun k_ => some k_ ≠ (s_.1 : Value).ownBlock) s_.2 y120) ∧ (w'.heap[gb115]? = some (.cells #[.int .u8 a0_0, .int .u8 a0_1, .int .u8 a0_2, .int .u8 a0_3, .int .u64 a0_4, .bool false, .bool a0_6, .int .u64 a0_7] 47 (0, 0))) ∧ (w'.heap[gb116]? = some (.cells #[.int .u64 0, .string (⟨#[]⟩ : ByteArray), .slice none 0 0, .int .u64 0, .bool false, .bool false] 34 (0, 0))) ∧ (Below w.heap.size w w')) ?_ ?_
                  rotate_left
                  · intro hJ0_2
                    refine join_ (σ := Value) 4 #[false, false, true, true, false, false] (fun s_ => [(9, s_), (10, .string (strOfNums y120))]) (fun s_ w' => (Kd.R (Kd.int .u8) 5 w' w.heap.size (fun _ => True) s_ y120) ∧ (w'.heap[gb115]? = some (.cells #[.int .u8 a0_0, .int .u8 a0_1, .int .u8 a0_2, .int .u8 a0_3, .int .u64 a0_4, .bool false, .bool a0_6, .int .u64 a0_7] 47 (0, 0))) ∧ (w'.heap[gb116]? = some (.cells #[.int .u64 0, .string (⟨#[]⟩ : ByteArray), .slice none 0 0, .int .u64 0, .bool false, .bool false] 34 (0, 0))) ∧ (Below w.heap.size w w')) ?_ ?_
                    rotate_left
                    · intro hJ2_3
                      refine join_ (σ := Value) 5 #[true, false, false, false, false, false] (fun s_ => [(7, s_)]) (fun s_ w' => (Kd.R (Kd.int .u8) 5 w' w.heap.size (fun _ => True) s_ y117) ∧ (w'.heap[gb115]? = some (.cells #[.int .u8 a0_0, .int .u8 a0_1, .int .u8 a0_2, .int .u8 a0_3, .int .u64 a0_4, .bool false, .bool a0_6, .int .u64 a0_7] 47 (0, 0))) ∧ (w'.heap[gb116]? = some (.cells #[.int .u64 0, .string (⟨#[]⟩ : ByteArray), .slice none 0 0, .int .u64 0, .bool false, .bool false] 34 (0, 0))) ∧ (Below w.heap.size w w')) ?_ ?_
                      rotate_left
                      · intro hJ0
                        refine join_ (σ := Value) 5 #[false, false, true, false, false, false] (fun s_ => [(9, s_)]) (fun s_ w' => (Kd.R (Kd.int .u8) 5 w' w.heap.size (fun _ => True) s_ y120) ∧ (w'.heap[gb115]? = some (.cells #[.int .u8 a0_0, .int .u8 a0_1, .int .u8 a0_2, .int .u8 a0_3, .int .u64 a0_4, .bool false, .bool a0_6, .int .u64 a0_7] 47 (0, 0))) ∧ (w'.heap[gb116]? = some (.cells #[.int .u64 0, .string (⟨#[]⟩ : ByteArray), .slice none 0 0, .int .u64 0, .bool false, .bool false] 34 (0, 0))) ∧ (Below w.heap.size w w')) ?_ ?_
                        rotate_left
                        · intro hJ2
                          refine two_ (i := 0) (j := 2) (Ni := some 7) (Nj := some 9) #[true, false, false, false, false, false] #[false, false, true, false, false, false] rfl rfl rfl rfl (by kernel_rfl) (by decide) (by decide) (fun K hK => ?_) (fun K hK => ?_)
                          · skip
                            refine Kd.R_make_step (Kd.int .u8) _ 5 (by rfl) (N := 7) rfl 22 _ _ rfl 64 rfl rfl Try.underlying22 (.int .u8 0) 1 info5 rfl (by decide) (by omega) 0 (ok := fun _ => True) (okp := fun _ => True) rfl (fun _ hk => hk) trivial (by omega) (by omega) (Below.refl _ _) (Nat.le_refl _) ?_
                            intro v118 w45 ho46 hb hg_ hnew_
                            clear hg_ hnew_
                            (first | rw [← Ny117.out] at ho46 | (simp only [Int.reduceToNat] at ho46; rw [← Ny117.out] at ho46))
                            have n0_ := Aside0.mk (Kd.R_lower ho46 (below_size (by repeat (first | (with_reducible first | exact HB.out | apply below_alloc | apply pw_below_drewN | apply below_drew1 | refine below_set ?_ GE115.out | refine below_set ?_ GE116.out) | exact HB.out))))
                            have n1_ := Aside0.mk (blk_below (g := gb115) (o := .cells #[.int .u8 a0_0, .int .u8 a0_1, .int .u8 a0_2, .int .u8 a0_3, .int .u64 a0_4, .bool false, .bool a0_6, .int .u64 a0_7] 47 (0, 0)) (by (with_reducible repeat (first | refine blk_drewN ?_ _ | refine blk_drew ?_ | refine blk_alloc ?_ _)); exact BK115.out) hb)
                            have n2_ := Aside0.mk (blk_below (g := gb116) (o := .cells #[.int .u64 0, .string (⟨#[]⟩ : ByteArray), .slice none 0 0, .int .u64 0, .bool false, .bool false] 34 (0, 0)) (by (with_reducible repeat (first | refine blk_drewN ?_ _ | refine blk_drew ?_ | refine blk_alloc ?_ _)); exact BK116.out) hb)
                            have n3_ := Aside0.mk (below_step (by repeat (first | (with_reducible first | exact HB.out | apply below_alloc | apply pw_below_drewN | apply below_drew1 | refine below_set ?_ GE115.out | refine below_set ?_ GE116.out) | exact HB.out)) hb)
                            clear BK115
                            clear BK116
                            clear HB
                            have HO119 := n0_
                            have BK115 := n1_
                            have BK116 := n2_
                            have HB := n3_
                            clear n0_ n1_ n2_ n3_
                            clear hb ho46
                            refine hK.out _ _ trivial (fun hHeld => ?_)
                            clear hK K
                            refine norm_ (a' := ?_) ?_ ?_
                            rotate_left
                            · show Act.put _ (some 7) _ = _
                              simp only [Act.put, List.setIfInBounds_toArray, List.set_cons_zero, List.set_cons_succ, i64_w, i32_w]
                              rfl
                            exact norm_ (by first | (simp only [putAll, Act.put, List.setIfInBounds_toArray, List.set_cons_zero, List.set_cons_succ]; done) | (simp only [putAll, Act.put, List.setIfInBounds_toArray, List.set_cons_zero, List.set_cons_succ]; rfl)) (hJ0 (v118) _ ⟨(by (with_reducible repeat (first | apply Kd.R_alloc | apply Kd.R_drewN | apply Kd.R_drew)); exact HO119.out), (by (with_reducible repeat (first | refine blk_drewN ?_ _ | refine blk_drew ?_ | refine blk_alloc ?_ _)); exact BK115.out), (by (with_reducible repeat (first | refine blk_drewN ?_ _ | refine blk_drew ?_ | refine blk_alloc ?_ _)); exact BK116.out), (by repeat (first | (with_reducible first | exact HB.out | apply below_alloc | apply pw_below_drewN | apply below_drew1 | refine below_set ?_ GE115.out | refine below_set ?_ GE116.out) | exact HB.out))⟩)
                          · skip
                            refine Kd.R_make_step (Kd.int .u8) _ 5 (by rfl) (N := 9) rfl 22 _ _ rfl 65 rfl rfl Try.underlying22 (.int .u8 0) 1 info5 rfl (by decide) (by omega) 0 (ok := fun _ => True) (okp := fun _ => True) rfl (fun _ hk => hk) trivial (by omega) (by omega) (Below.refl _ _) (Nat.le_refl _) ?_
                            intro v121 w45 ho46 hb hg_ hnew_
                            clear hg_ hnew_
                            (first | rw [← Ny120.out] at ho46 | (simp only [Int.reduceToNat] at ho46; rw [← Ny120.out] at ho46))
                            have n0_ := Aside0.mk (Kd.R_lower ho46 (below_size (by repeat (first | (with_reducible first | exact HB.out | apply below_alloc | apply pw_below_drewN | apply below_drew1 | refine below_set ?_ GE115.out | refine below_set ?_ GE116.out) | exact HB.out))))
                            have n1_ := Aside0.mk (blk_below (g := gb115) (o := .cells #[.int .u8 a0_0, .int .u8 a0_1, .int .u8 a0_2, .int .u8 a0_3, .int .u64 a0_4, .bool false, .bool a0_6, .int .u64 a0_7] 47 (0, 0)) (by (with_reducible repeat (first | refine blk_drewN ?_ _ | refine blk_drew ?_ | refine blk_alloc ?_ _)); exact BK115.out) hb)
                            have n2_ := Aside0.mk (blk_below (g := gb116) (o := .cells #[.int .u64 0, .string (⟨#[]⟩ : ByteArray), .slice none 0 0, .int .u64 0, .bool false, .bool false] 34 (0, 0)) (by (with_reducible repeat (first | refine blk_drewN ?_ _ | refine blk_drew ?_ | refine blk_alloc ?_ _)); exact BK116.out) hb)
                            have n3_ := Aside0.mk (below_step (by repeat (first | (with_reducible first | exact HB.out | apply below_alloc | apply pw_below_drewN | apply below_drew1 | refine below_set ?_ GE115.out | refine below_set ?_ GE116.out) | exact HB.out)) hb)
                            clear BK115
                            clear BK116
                            clear HB
                            have HO122 := n0_
                            have BK115 := n1_
                            have BK116 := n2_
                            have HB := n3_
                            clear n0_ n1_ n2_ n3_
                            clear hb ho46
                            refine hK.out _ _ trivial (fun hHeld => ?_)
                            clear hK K
                            refine norm_ (a' := ?_) ?_ ?_
                            rotate_left
                            · show Act.put _ (some 9) _ = _
                              simp only [Act.put, List.setIfInBounds_toArray, List.set_cons_zero, List.set_cons_succ, i64_w, i32_w]
                              rfl
                            exact norm_ (by first | (simp only [putAll, Act.put, List.setIfInBounds_toArray, List.set_cons_zero, List.set_cons_succ]; done) | (simp only [putAll, Act.put, List.setIfInBounds_toArray, List.set_cons_zero, List.set_cons_succ]; rfl)) (hJ2 (v121) _ ⟨(by (with_reducible repeat (first | apply Kd.R_alloc | apply Kd.R_drewN | apply Kd.R_drew)); exact HO122.out), (by (with_reducible repeat (first | refine blk_drewN ?_ _ | refine blk_drew ?_ | refine blk_alloc ?_ _)); exact BK115.out), (by (with_reducible repeat (first | refine blk_drewN ?_ _ | refine blk_drew ?_ | refine blk_alloc ?_ _)); exact BK116.out), (by repeat (first | (with_reducible first | exact HB.out | apply below_alloc | apply pw_below_drewN | apply below_drew1 | refine below_set ?_ GE115.out | refine below_set ?_ GE116.out) | exact HB.out))⟩)
                        · skip
                          rintro v121 w47 ⟨h0_, h1_, h2_, h3_⟩
                          have n0_ : Aside0 (Kd.R (Kd.int .u8) 5 w47 w.heap.size (fun _ => True) v121 y120) := ⟨h0_⟩
                          have n1_ : Aside0 (w47.heap[gb115]? = some (.cells #[.int .u8 a0_0, .int .u8 a0_1, .int .u8 a0_2, .int .u8 a0_3, .int .u64 a0_4, .bool false, .bool a0_6, .int .u64 a0_7] 47 (0, 0))) := ⟨h1_⟩
                          have n2_ : Aside0 (w47.heap[gb116]? = some (.cells #[.int .u64 0, .string (⟨#[]⟩ : ByteArray), .slice none 0 0, .int .u64 0, .bool false, .bool false] 34 (0, 0))) := ⟨h2_⟩
                          have n3_ : Aside0 (Below w.heap.size w w47) := ⟨h3_⟩
                          clear BK115
                          clear BK116
                          clear HB
                          clear h0_ h1_ h2_ h3_
                          have HO122 := n0_
                          have BK115 := n1_
                          have BK116 := n2_
                          have HB := n3_
                          clear n0_ n1_ n2_ n3_
                          have hHeld := trivial
                          refine norm_ (a' := ?_) ?_ ?_
                          rotate_left
                          · simp only [putAll, Act.put, List.setIfInBounds_toArray, List.set_cons_zero, List.set_cons_succ]
                            rfl
                          refine two_ (i := 0) (j := 3) (Ni := some 7) (Nj := some 10) #[true, false, true, false, false, false] #[false, false, true, true, false, false] rfl rfl rfl rfl (by kernel_rfl) (by decide) (by decide) (fun K hK => ?_) (fun K hK => ?_)
                          · skip
                            refine Kd.R_make_step (Kd.int .u8) _ 5 (by rfl) (N := 7) rfl 22 _ _ rfl 64 rfl rfl Try.underlying22 (.int .u8 0) 1 info5 rfl (by decide) (by omega) 0 (ok := fun _ => True) (okp := fun _ => True) rfl (fun _ hk => hk) trivial (by omega) (by omega) (Below.refl _ _) (Nat.le_refl _) ?_
                            intro v118 w48 ho49 hb hg_ hnew_
                            clear hg_ hnew_
                            (first | rw [← Ny117.out] at ho49 | (simp only [Int.reduceToNat] at ho49; rw [← Ny117.out] at ho49))
                            have n0_ := Aside0.mk (Kd.R_elder' (by (with_reducible repeat (first | apply Kd.R_alloc | apply Kd.R_drewN | apply Kd.R_drew)); exact HO122.out) (Kd.R_base ho49) hb)
                            have n1_ := Aside0.mk (Kd.R_lower (Kd.R_new' ho49 (Kd.R_lt (by (with_reducible repeat (first | apply Kd.R_alloc | apply Kd.R_drewN | apply Kd.R_drew)); exact HO122.out))) (below_size (by repeat (first | (with_reducible first | exact HB.out | apply below_alloc | apply pw_below_drewN | apply below_drew1 | refine below_set ?_ GE115.out | refine below_set ?_ GE116.out) | exact HB.out))))
                            have n2_ := Aside0.mk (blk_below (g := gb115) (o := .cells #[.int .u8 a0_0, .int .u8 a0_1, .int .u8 a0_2, .int .u8 a0_3, .int .u64 a0_4, .bool false, .bool a0_6, .int .u64 a0_7] 47 (0, 0)) (by (with_reducible repeat (first | refine blk_drewN ?_ _ | refine blk_drew ?_ | refine blk_alloc ?_ _)); exact BK115.out) hb)
                            have n3_ := Aside0.mk (blk_below (g := gb116) (o := .cells #[.int .u64 0, .string (⟨#[]⟩ : ByteArray), .slice none 0 0, .int .u64 0, .bool false, .bool false] 34 (0, 0)) (by (with_reducible repeat (first | refine blk_drewN ?_ _ | refine blk_drew ?_ | refine blk_alloc ?_ _)); exact BK116.out) hb)
                            have n4_ := Aside0.mk (below_step (by repeat (first | (with_reducible first | exact HB.out | apply below_alloc | apply pw_below_drewN | apply below_drew1 | refine below_set ?_ GE115.out | refine below_set ?_ GE116.out) | exact HB.out)) hb)
                            clear HO122
                            clear BK115
                            clear BK116
                            clear HB
                            have HO122 := n0_
                            have HO119 := n1_
                            have BK115 := n2_
                            have BK116 := n3_
                            have HB := n4_
                            clear n0_ n1_ n2_ n3_ n4_
                            clear hb ho49
                            refine hK.out _ _ trivial (fun hHeld => ?_)
                            clear hK K
                            refine norm_ (a' := ?_) ?_ ?_
                            rotate_left
                            · show Act.put _ (some 7) _ = _
                              simp only [Act.put, List.setIfInBounds_toArray, List.set_cons_zero, List.set_cons_succ, i64_w, i32_w]
                              rfl
                            exact norm_ (by first | (simp only [putAll, Act.put, List.setIfInBounds_toArray, List.set_cons_zero, List.set_cons_succ]; done) | (simp only [putAll, Act.put, List.setIfInBounds_toArray, List.set_cons_zero, List.set_cons_succ]; rfl)) (hJ0_2 (v118, v121) _ ⟨(by (with_reducible repeat (first | apply Kd.R_alloc | apply Kd.R_drewN | apply Kd.R_drew)); exact Kd.R_mono HO119.out (fun _ hk => hk.2)), (by (with_reducible repeat (first | apply Kd.R_alloc | apply Kd.R_drewN | apply Kd.R_drew)); exact Kd.R_mono HO122.out (fun _ hk => hk.2)), (by (with_reducible repeat (first | refine blk_drewN ?_ _ | refine blk_drew ?_ | refine blk_alloc ?_ _)); exact BK115.out), (by (with_reducible repeat (first | refine blk_drewN ?_ _ | refine blk_drew ?_ | refine blk_alloc ?_ _)); exact BK116.out), (by repeat (first | (with_reducible first | exact HB.out | apply below_alloc | apply pw_below_drewN | apply below_drew1 | refine below_set ?_ GE115.out | refine below_set ?_ GE116.out) | exact HB.out))⟩)
                          · skip
                            have hcv48 := own_string (P := Try.prog) Try.underlying22 Try.underlying5 Try.underlying9 (Kd.own_of_R HO122.out)
                            refine value_ (w1 := ?_) (v := ?_) (by rfl) rfl ?_ ?_
                            rotate_left 2
                            · go_simp
                              constructor
                              · rfl
                              · rfl
                            clear hcv48
                            refine hK.out _ _ trivial (fun hHeld => ?_)
                            clear hK K
                            refine norm_ (a' := ?_) ?_ ?_
                            rotate_left
                            · show Act.put _ (some 10) _ = _
                              simp only [Act.put, List.setIfInBounds_toArray, List.set_cons_zero, List.set_cons_succ, i64_w, i32_w]
                              rfl
                            exact norm_ (by first | (simp only [putAll, Act.put, List.setIfInBounds_toArray, List.set_cons_zero, List.set_cons_succ]; done) | (simp only [putAll, Act.put, List.setIfInBounds_toArray, List.set_cons_zero, List.set_cons_succ]; rfl)) (hJ2_3 (v121) _ ⟨(by (with_reducible repeat (first | apply Kd.R_alloc | apply Kd.R_drewN | apply Kd.R_drew)); exact HO122.out), (by (with_reducible repeat (first | refine blk_drewN ?_ _ | refine blk_drew ?_ | refine blk_alloc ?_ _)); exact BK115.out), (by (with_reducible repeat (first | refine blk_drewN ?_ _ | refine blk_drew ?_ | refine blk_alloc ?_ _)); exact BK116.out), (by repeat (first | (with_reducible first | exact HB.out | apply below_alloc | apply pw_below_drewN | apply below_drew1 | refine below_set ?_ GE115.out | refine below_set ?_ GE116.out) | exact HB.out))⟩)
                      · skip
                        rintro v118 w47 ⟨h0_, h1_, h2_, h3_⟩
                        have n0_ : Aside0 (Kd.R (Kd.int .u8) 5 w47 w.heap.size (fun _ => True) v118 y117) := ⟨h0_⟩
                        have n1_ : Aside0 (w47.heap[gb115]? = some (.cells #[.int .u8 a0_0, .int .u8 a0_1, .int .u8 a0_2, .int .u8 a0_3, .int .u64 a0_4, .bool false, .bool a0_6, .int .u64 a0_7] 47 (0, 0))) := ⟨h1_⟩
                        have n2_ : Aside0 (w47.heap[gb116]? = some (.cells #[.int .u64 0, .string (⟨#[]⟩ : ByteArray), .slice none 0 0, .int .u64 0, .bool false, .bool false] 34 (0, 0))) := ⟨h2_⟩
                        have n3_ : Aside0 (Below w.heap.size w w47) := ⟨h3_⟩
                        clear BK115
                        clear BK116
                        clear HB
                        clear h0_ h1_ h2_ h3_
                        have HO119 := n0_
                        have BK115 := n1_
                        have BK116 := n2_
                        have HB := n3_
                        clear n0_ n1_ n2_ n3_
                        have hHeld := trivial
                        refine norm_ (a' := ?_) ?_ ?_
                        rotate_left
                        · simp only [putAll, Act.put, List.setIfInBounds_toArray, List.set_cons_zero, List.set_cons_succ]
                          rfl
                        refine two_ (i := 1) (j := 2) (Ni := some 8) (Nj := some 9) #[true, true, false, false, false, false] #[true, false, true, false, false, false] rfl rfl rfl rfl (by kernel_rfl) (by decide) (by decide) (fun K hK => ?_) (fun K hK => ?_)
                        · skip
                          have hcv48 := own_string (P := Try.prog) Try.underlying22 Try.underlying5 Try.underlying9 (Kd.own_of_R HO119.out)
                          refine value_ (w1 := ?_) (v := ?_) (by rfl) rfl ?_ ?_
                          rotate_left 2
                          · go_simp
                            constructor
                            · rfl
                            · rfl
                          clear hcv48
                          refine hK.out _ _ trivial (fun hHeld => ?_)
                          clear hK K
                          refine norm_ (a' := ?_) ?_ ?_
                          rotate_left
                          · show Act.put _ (some 8) _ = _
                            simp only [Act.put, List.setIfInBounds_toArray, List.set_cons_zero, List.set_cons_succ, i64_w, i32_w]
                            rfl
                          exact norm_ (by first | (simp only [putAll, Act.put, List.setIfInBounds_toArray, List.set_cons_zero, List.set_cons_succ]; done) | (simp only [putAll, Act.put, List.setIfInBounds_toArray, List.set_cons_zero, List.set_cons_succ]; rfl)) (hJ0_1 (v118) _ ⟨(by (with_reducible repeat (first | apply Kd.R_alloc | apply Kd.R_drewN | apply Kd.R_drew)); exact HO119.out), (by (with_reducible repeat (first | refine blk_drewN ?_ _ | refine blk_drew ?_ | refine blk_alloc ?_ _)); exact BK115.out), (by (with_reducible repeat (first | refine blk_drewN ?_ _ | refine blk_drew ?_ | refine blk_alloc ?_ _)); exact BK116.out), (by repeat (first | (with_reducible first | exact HB.out | apply below_alloc | apply pw_below_drewN | apply below_drew1 | refine below_set ?_ GE115.out | refine below_set ?_ GE116.out) | exact HB.out))⟩)
                        · skip
                          refine Kd.R_make_step (Kd.int .u8) _ 5 (by rfl) (N := 9) rfl 22 _ _ rfl 65 rfl rfl Try.underlying22 (.int .u8 0) 1 info5 rfl (by decide) (by omega) 0 (ok := fun _ => True) (okp := fun _ => True) rfl (fun _ hk => hk) trivial (by omega) (by omega) (Below.refl _ _) (Nat.le_refl _) ?_
                          intro v121 w48 ho49 hb hg_ hnew_
                          clear hg_ hnew_
                          (first | rw [← Ny120.out] at ho49 | (simp only [Int.reduceToNat] at ho49; rw [← Ny120.out] at ho49))
                          have n0_ := Aside0.mk (Kd.R_elder' (by (with_reducible repeat (first | apply Kd.R_alloc | apply Kd.R_drewN | apply Kd.R_drew)); exact HO119.out) (Kd.R_base ho49) hb)
                          have n1_ := Aside0.mk (Kd.R_lower (Kd.R_new' ho49 (Kd.R_lt (by (with_reducible repeat (first | apply Kd.R_alloc | apply Kd.R_drewN | apply Kd.R_drew)); exact HO119.out))) (below_size (by repeat (first | (with_reducible first | exact HB.out | apply below_alloc | apply pw_below_drewN | apply below_drew1 | refine below_set ?_ GE115.out | refine below_set ?_ GE116.out) | exact HB.out))))
                          have n2_ := Aside0.mk (blk_below (g := gb115) (o := .cells #[.int .u8 a0_0, .int .u8 a0_1, .int .u8 a0_2, .int .u8 a0_3, .int .u64 a0_4, .bool false, .bool a0_6, .int .u64 a0_7] 47 (0, 0)) (by (with_reducible repeat (first | refine blk_drewN ?_ _ | refine blk_drew ?_ | refine blk_alloc ?_ _)); exact BK115.out) hb)
                          have n3_ := Aside0.mk (blk_below (g := gb116) (o := .cells #[.int .u64 0, .string (⟨#[]⟩ : ByteArray), .slice none 0 0, .int .u64 0, .bool false, .bool false] 34 (0, 0)) (by (with_reducible repeat (first | refine blk_drewN ?_ _ | refine blk_drew ?_ | refine blk_alloc ?_ _)); exact BK116.out) hb)
                          have n4_ := Aside0.mk (below_step (by repeat (first | (with_reducible first | exact HB.out | apply below_alloc | apply pw_below_drewN | apply below_drew1 | refine below_set ?_ GE115.out | refine below_set ?_ GE116.out) | exact HB.out)) hb)
                          clear HO119
                          clear BK115
                          clear BK116
                          clear HB
                          have HO119 := n0_
                          have HO122 := n1_
                          have BK115 := n2_
                          have BK116 := n3_
                          have HB := n4_
                          clear n0_ n1_ n2_ n3_ n4_
                          clear hb ho49
                          refine hK.out _ _ trivial (fun hHeld => ?_)
                          clear hK K
                          refine norm_ (a' := ?_) ?_ ?_
                          rotate_left
                          · show Act.put _ (some 9) _ = _
                            simp only [Act.put, List.setIfInBounds_toArray, List.set_cons_zero, List.set_cons_succ, i64_w, i32_w]
                            rfl
                          exact norm_ (by first | (simp only [putAll, Act.put, List.setIfInBounds_toArray, List.set_cons_zero, List.set_cons_succ]; done) | (simp only [putAll, Act.put, List.setIfInBounds_toArray, List.set_cons_zero, List.set_cons_succ]; rfl)) (hJ0_2 (v118, v121) _ ⟨(by (with_reducible repeat (first | apply Kd.R_alloc | apply Kd.R_drewN | apply Kd.R_drew)); exact Kd.R_mono HO119.out (fun _ hk => hk.2)), (by (with_reducible repeat (first | apply Kd.R_alloc | apply Kd.R_drewN | apply Kd.R_drew)); exact Kd.R_mono HO122.out (fun _ hk => hk.2)), (by (with_reducible repeat (first | refine blk_drewN ?_ _ | refine blk_drew ?_ | refine blk_alloc ?_ _)); exact BK115.out), (by (with_reducible repeat (first | refine blk_drewN ?_ _ | refine blk_drew ?_ | refine blk_alloc ?_ _)); exact BK116.out), (by repeat (first | (with_reducible first | exact HB.out | apply below_alloc | apply pw_below_drewN | apply below_drew1 | refine below_set ?_ GE115.out | refine below_set ?_ GE116.out) | exact HB.out))⟩)
                    · skip
                      rintro v121 w48 ⟨h0_, h1_, h2_, h3_⟩
                      have n0_ : Aside0 (Kd.R (Kd.int .u8) 5 w48 w.heap.size (fun _ => True) v121 y120) := ⟨h0_⟩
                      have n1_ : Aside0 (w48.heap[gb115]? = some (.cells #[.int .u8 a0_0, .int .u8 a0_1, .int .u8 a0_2, .int .u8 a0_3, .int .u64 a0_4, .bool false, .bool a0_6, .int .u64 a0_7] 47 (0, 0))) := ⟨h1_⟩
                      have n2_ : Aside0 (w48.heap[gb116]? = some (.cells #[.int .u64 0, .string (⟨#[]⟩ : ByteArray), .slice none 0 0, .int .u64 0, .bool false, .bool false] 34 (0, 0))) := ⟨h2_⟩
                      have n3_ : Aside0 (Below w.heap.size w w48) := ⟨h3_⟩
                      clear BK115
                      clear BK116
                      clear HB
                      clear h0_ h1_ h2_ h3_
                      have HO122 := n0_
                      have BK115 := n1_
                      have BK116 := n2_
                      have HB := n3_
                      clear n0_ n1_ n2_ n3_
                      have hHeld := trivial
                      refine norm_ (a' := ?_) ?_ ?_
                      rotate_left
                      · simp only [putAll, Act.put, List.setIfInBounds_toArray, List.set_cons_zero, List.set_cons_succ]
                        rfl
                      refine one_ (i := 0) (N := some 7) #[true, false, true, true, false, false] rfl rfl (by kernel_rfl) (by decide) (fun K hK => ?_)
                      refine Kd.R_make_step (Kd.int .u8) _ 5 (by rfl) (N := 7) rfl 22 _ _ rfl 64 rfl rfl Try.underlying22 (.int .u8 0) 1 info5 rfl (by decide) (by omega) 0 (ok := fun _ => True) (okp := fun _ => True) rfl (fun _ hk => hk) trivial (by omega) (by omega) (Below.refl _ _) (Nat.le_refl _) ?_
                      intro v118 w49 ho50 hb hg_ hnew_
                      clear hg_ hnew_
                      (first | rw [← Ny117.out] at ho50 | (simp only [Int.reduceToNat] at ho50; rw [← Ny117.out] at ho50))
                      have n0_ := Aside0.mk (Kd.R_elder' (by (with_reducible repeat (first | apply Kd.R_alloc | apply Kd.R_drewN | apply Kd.R_drew)); exact HO122.out) (Kd.R_base ho50) hb)
                      have n1_ := Aside0.mk (Kd.R_lower (Kd.R_new' ho50 (Kd.R_lt (by (with_reducible repeat (first | apply Kd.R_alloc | apply Kd.R_drewN | apply Kd.R_drew)); exact HO122.out))) (below_size (by repeat (first | (with_reducible first | exact HB.out | apply below_alloc | apply pw_below_drewN | apply below_drew1 | refine below_set ?_ GE115.out | refine below_set ?_ GE116.out) | exact HB.out))))
                      have n2_ := Aside0.mk (blk_below (g := gb115) (o := .cells #[.int .u8 a0_0, .int .u8 a0_1, .int .u8 a0_2, .int .u8 a0_3, .int .u64 a0_4, .bool false, .bool a0_6, .int .u64 a0_7] 47 (0, 0)) (by (with_reducible repeat (first | refine blk_drewN ?_ _ | refine blk_drew ?_ | refine blk_alloc ?_ _)); exact BK115.out) hb)
                      have n3_ := Aside0.mk (blk_below (g := gb116) (o := .cells #[.int .u64 0, .string (⟨#[]⟩ : ByteArray), .slice none 0 0, .int .u64 0, .bool false, .bool false] 34 (0, 0)) (by (with_reducible repeat (first | refine blk_drewN ?_ _ | refine blk_drew ?_ | refine blk_alloc ?_ _)); exact BK116.out) hb)
                      have n4_ := Aside0.mk (below_step (by repeat (first | (with_reducible first | exact HB.out | apply below_alloc | apply pw_below_drewN | apply below_drew1 | refine below_set ?_ GE115.out | refine below_set ?_ GE116.out) | exact HB.out)) hb)
                      clear HO122
                      clear BK115
                      clear BK116
                      clear HB
                      have HO122 := n0_
                      have HO119 := n1_
                      have BK115 := n2_
                      have BK116 := n3_
                      have HB := n4_
                      clear n0_ n1_ n2_ n3_ n4_
                      clear hb ho50
                      refine hK.out _ _ trivial (fun hHeld => ?_)
                      clear hK K
                      refine norm_ (a' := ?_) ?_ ?_
                      rotate_left
                      · show Act.put _ (some 7) _ = _
                        simp only [Act.put, List.setIfInBounds_toArray, List.set_cons_zero, List.set_cons_succ, i64_w, i32_w]
                        rfl
                      exact norm_ (by first | (simp only [putAll, Act.put, List.setIfInBounds_toArray, List.set_cons_zero, List.set_cons_succ]; done) | (simp only [putAll, Act.put, List.setIfInBounds_toArray, List.set_cons_zero, List.set_cons_succ]; rfl)) (hJ0_2_3 (v118, v121) _ ⟨(by (with_reducible repeat (first | apply Kd.R_alloc | apply Kd.R_drewN | apply Kd.R_drew)); exact Kd.R_mono HO119.out (fun _ hk => hk.2)), (by (with_reducible repeat (first | apply Kd.R_alloc | apply Kd.R_drewN | apply Kd.R_drew)); exact Kd.R_mono HO122.out (fun _ hk => hk.2)), (by (with_reducible repeat (first | refine blk_drewN ?_ _ | refine blk_drew ?_ | refine blk_alloc ?_ _)); exact BK115.out), (by (with_reducible repeat (first | refine blk_drewN ?_ _ | refine blk_drew ?_ | refine blk_alloc ?_ _)); exact BK116.out), (by repeat (first | (with_reducible first | exact HB.out | apply below_alloc | apply pw_below_drewN | apply below_drew1 | refine below_set ?_ GE115.out | refine below_set ?_ GE116.out) | exact HB.out))⟩)
                  · skip
                    rintro ⟨v118, v121⟩ w49 ⟨h0_, h1_, h2_, h3_, h4_⟩
                    have n0_ : Aside0 (Kd.R (Kd.int .u8) 5 w49 w.heap.size (fun k_ => some k_ ≠ (v121 : Value).ownBlock) v118 y117) := ⟨h0_⟩
                    have n1_ : Aside0 (Kd.R (Kd.int .u8) 5 w49 w.heap.size (fun k_ => some k_ ≠ (v118 : Value).ownBlock) v121 y120) := ⟨h1_⟩
                    have n2_ : Aside0 (w49.heap[gb115]? = some (.cells #[.int .u8 a0_0, .int .u8 a0_1, .int .u8 a0_2, .int .u8 a0_3, .int .u64 a0_4, .bool false, .bool a0_6, .int .u64 a0_7] 47 (0, 0))) := ⟨h2_⟩
                    have n3_ : Aside0 (w49.heap[gb116]? = some (.cells #[.int .u64 0, .string (⟨#[]⟩ : ByteArray), .slice none 0 0, .int .u64 0, .bool false, .bool false] 34 (0, 0))) := ⟨h3_⟩
                    have n4_ : Aside0 (Below w.heap.size w w49) := ⟨h4_⟩
                    clear BK115
                    clear BK116
                    clear HB
                    clear h0_ h1_ h2_ h3_ h4_
                    have HO119 := n0_
                    have HO122 := n1_
                    have BK115 := n2_
                    have BK116 := n3_
                    have HB := n4_
                    clear n0_ n1_ n2_ n3_ n4_
                    have hHeld := trivial
                    refine norm_ (a' := ?_) ?_ ?_
                    rotate_left
                    · simp only [putAll, Act.put, List.setIfInBounds_toArray, List.set_cons_zero, List.set_cons_succ]
                      rfl
                    refine two_ (i := 1) (j := 3) (Ni := some 8) (Nj := some 10) #[true, true, true, false, false, false] #[true, false, true, true, false, false] rfl rfl rfl rfl (by kernel_rfl) (by decide) (by decide) (fun K hK => ?_) (fun K hK => ?_)
                    · skip
                      have hcv50 := own_string (P := Try.prog) Try.underlying22 Try.underlying5 Try.underlying9 (Kd.own_of_R HO119.out)
                      refine value_ (w1 := ?_) (v := ?_) (by rfl) rfl ?_ ?_
                      rotate_left 2
                      · go_simp
                        constructor
                        · rfl
                        · rfl
                      clear hcv50
                      refine hK.out _ _ trivial (fun hHeld => ?_)
                      clear hK K
                      refine norm_ (a' := ?_) ?_ ?_
                      rotate_left
                      · show Act.put _ (some 8) _ = _
                        simp only [Act.put, List.setIfInBounds_toArray, List.set_cons_zero, List.set_cons_succ, i64_w, i32_w]
                        rfl
                      exact norm_ (by first | (simp only [putAll, Act.put, List.setIfInBounds_toArray, List.set_cons_zero, List.set_cons_succ]; done) | (simp only [putAll, Act.put, List.setIfInBounds_toArray, List.set_cons_zero, List.set_cons_succ]; rfl)) (hJ0_1_2 (v118, v121) _ ⟨(by (with_reducible repeat (first | apply Kd.R_alloc | apply Kd.R_drewN | apply Kd.R_drew)); exact HO119.out), (by (with_reducible repeat (first | apply Kd.R_alloc | apply Kd.R_drewN | apply Kd.R_drew)); exact HO122.out), (by (with_reducible repeat (first | refine blk_drewN ?_ _ | refine blk_drew ?_ | refine blk_alloc ?_ _)); exact BK115.out), (by (with_reducible repeat (first | refine blk_drewN ?_ _ | refine blk_drew ?_ | refine blk_alloc ?_ _)); exact BK116.out), (by repeat (first | (with_reducible first | exact HB.out | apply below_alloc | apply pw_below_drewN | apply below_drew1 | refine below_set ?_ GE115.out | refine below_set ?_ GE116.out) | exact HB.out))⟩)
                    · skip
                      have hcv50 := own_string (P := Try.prog) Try.underlying22 Try.underlying5 Try.underlying9 (Kd.own_of_R HO122.out)
                      refine value_ (w1 := ?_) (v := ?_) (by rfl) rfl ?_ ?_
                      rotate_left 2
                      · go_simp
                        constructor
                        · rfl
                        · rfl
                      clear hcv50
                      refine hK.out _ _ trivial (fun hHeld => ?_)
                      clear hK K
                      refine norm_ (a' := ?_) ?_ ?_
                      rotate_left
                      · show Act.put _ (some 10) _ = _
                        simp only [Act.put, List.setIfInBounds_toArray, List.set_cons_zero, List.set_cons_succ, i64_w, i32_w]
                        rfl
                      exact norm_ (by first | (simp only [putAll, Act.put, List.setIfInBounds_toArray, List.set_cons_zero, List.set_cons_succ]; done) | (simp only [putAll, Act.put, List.setIfInBounds_toArray, List.set_cons_zero, List.set_cons_succ]; rfl)) (hJ0_2_3 (v118, v121) _ ⟨(by (with_reducible repeat (first | apply Kd.R_alloc | apply Kd.R_drewN | apply Kd.R_drew)); exact HO119.out), (by (with_reducible repeat (first | apply Kd.R_alloc | apply Kd.R_drewN | apply Kd.R_drew)); exact HO122.out), (by (with_reducible repeat (first | refine blk_drewN ?_ _ | refine blk_drew ?_ | refine blk_alloc ?_ _)); exact BK115.out), (by (with_reducible repeat (first | refine blk_drewN ?_ _ | refine blk_drew ?_ | refine blk_alloc ?_ _)); exact BK116.out), (by repeat (first | (with_reducible first | exact HB.out | apply below_alloc | apply pw_below_drewN | apply below_drew1 | refine below_set ?_ GE115.out | refine below_set ?_ GE116.out) | exact HB.out))⟩)
                · skip
                  rintro v118 w48 ⟨h0_, h1_, h2_, h3_⟩
                  have n0_ : Aside0 (Kd.R (Kd.int .u8) 5 w48 w.heap.size (fun _ => True) v118 y117) := ⟨h0_⟩
                  have n1_ : Aside0 (w48.heap[gb115]? = some (.cells #[.int .u8 a0_0, .int .u8 a0_1, .int .u8 a0_2, .int .u8 a0_3, .int .u64 a0_4, .bool false, .bool a0_6, .int .u64 a0_7] 47 (0, 0))) := ⟨h1_⟩
                  have n2_ : Aside0 (w48.heap[gb116]? = some (.cells #[.int .u64 0, .string (⟨#[]⟩ : ByteArray), .slice none 0 0, .int .u64 0, .bool false, .bool false] 34 (0, 0))) := ⟨h2_⟩
                  have n3_ : Aside0 (Below w.heap.size w w48) := ⟨h3_⟩
                  clear BK115
                  clear BK116
                  clear HB
                  clear h0_ h1_ h2_ h3_
                  have HO119 := n0_
                  have BK115 := n1_
                  have BK116 := n2_
                  have HB := n3_
                  clear n0_ n1_ n2_ n3_
                  have hHeld := trivial
                  refine norm_ (a' := ?_) ?_ ?_
                  rotate_left
                  · simp only [putAll, Act.put, List.setIfInBounds_toArray, List.set_cons_zero, List.set_cons_succ]
                    rfl
                  refine one_ (i := 2) (N := some 9) #[true, true, true, false, false, false] rfl rfl (by kernel_rfl) (by decide) (fun K hK => ?_)
                  refine Kd.R_make_step (Kd.int .u8) _ 5 (by rfl) (N := 9) rfl 22 _ _ rfl 65 rfl rfl Try.underlying22 (.int .u8 0) 1 info5 rfl (by decide) (by omega) 0 (ok := fun _ => True) (okp := fun _ => True) rfl (fun _ hk => hk) trivial (by omega) (by omega) (Below.refl _ _) (Nat.le_refl _) ?_
                  intro v121 w49 ho50 hb hg_ hnew_
                  clear hg_ hnew_
                  (first | rw [← Ny120.out] at ho50 | (simp only [Int.reduceToNat] at ho50; rw [← Ny120.out] at ho50))
                  have n0_ := Aside0.mk (Kd.R_elder' (by (with_reducible repeat (first | apply Kd.R_alloc | apply Kd.R_drewN | apply Kd.R_drew)); exact HO119.out) (Kd.R_base ho50) hb)
                  have n1_ := Aside0.mk (Kd.R_lower (Kd.R_new' ho50 (Kd.R_lt (by (with_reducible repeat (first | apply Kd.R_alloc | apply Kd.R_drewN | apply Kd.R_drew)); exact HO119.out))) (below_size (by repeat (first | (with_reducible first | exact HB.out | apply below_alloc | apply pw_below_drewN | apply below_drew1 | refine below_set ?_ GE115.out | refine below_set ?_ GE116.out) | exact HB.out))))
                  have n2_ := Aside0.mk (blk_below (g := gb115) (o := .cells #[.int .u8 a0_0, .int .u8 a0_1, .int .u8 a0_2, .int .u8 a0_3, .int .u64 a0_4, .bool false, .bool a0_6, .int .u64 a0_7] 47 (0, 0)) (by (with_reducible repeat (first | refine blk_drewN ?_ _ | refine blk_drew ?_ | refine blk_alloc ?_ _)); exact BK115.out) hb)
                  have n3_ := Aside0.mk (blk_below (g := gb116) (o := .cells #[.int .u64 0, .string (⟨#[]⟩ : ByteArray), .slice none 0 0, .int .u64 0, .bool false, .bool false] 34 (0, 0)) (by (with_reducible repeat (first | refine blk_drewN ?_ _ | refine blk_drew ?_ | refine blk_alloc ?_ _)); exact BK116.out) hb)
                  have n4_ := Aside0.mk (below_step (by repeat (first | (with_reducible first | exact HB.out | apply below_alloc | apply pw_below_drewN | apply below_drew1 | refine below_set ?_ GE115.out | refine below_set ?_ GE116.out) | exact HB.out)) hb)
                  clear HO119
                  clear BK115
                  clear BK116
                  clear HB
                  have HO119 := n0_
                  have HO122 := n1_
                  have BK115 := n2_
                  have BK116 := n3_
                  have HB := n4_
                  clear n0_ n1_ n2_ n3_ n4_
                  clear hb ho50
                  refine hK.out _ _ trivial (fun hHeld => ?_)
                  clear hK K
                  refine norm_ (a' := ?_) ?_ ?_
                  rotate_left
                  · show Act.put _ (some 9) _ = _
                    simp only [Act.put, List.setIfInBounds_toArray, List.set_cons_zero, List.set_cons_succ, i64_w, i32_w]
                    rfl
                  exact norm_ (by first | (simp only [putAll, Act.put, List.setIfInBounds_toArray, List.set_cons_zero, List.set_cons_succ]; done) | (simp only [putAll, Act.put, List.setIfInBounds_toArray, List.set_cons_zero, List.set_cons_succ]; rfl)) (hJ0_1_2 (v118, v121) _ ⟨(by (with_reducible repeat (first | apply Kd.R_alloc | apply Kd.R_drewN | apply Kd.R_drew)); exact Kd.R_mono HO119.out (fun _ hk => hk.2)), (by (with_reducible repeat (first | apply Kd.R_alloc | apply Kd.R_drewN | apply Kd.R_drew)); exact Kd.R_mono HO122.out (fun _ hk => hk.2)), (by (with_reducible repeat (first | refine blk_drewN ?_ _ | refine blk_drew ?_ | refine blk_alloc ?_ _)); exact BK115.out), (by (with_reducible repeat (first | refine blk_drewN ?_ _ | refine blk_drew ?_ | refine blk_alloc ?_ _)); exact BK116.out), (by repeat (first | (with_reducible first | exact HB.out | apply below_alloc | apply pw_below_drewN | apply below_drew1 | refine below_set ?_ GE115.out | refine below_set ?_ GE116.out) | exact HB.out))⟩)
              · skip
                rintro ⟨v118, v121⟩ w50 ⟨h0_, h1_, h2_, h3_, h4_⟩
                have n0_ : Aside0 (Kd.R (Kd.int .u8) 5 w50 w.heap.size (fun k_ => some k_ ≠ (v121 : Value).ownBlock) v118 y117) := ⟨h0_⟩
                have n1_ : Aside0 (Kd.R (Kd.int .u8) 5 w50 w.heap.size (fun k_ => some k_ ≠ (v118 : Value).ownBlock) v121 y120) := ⟨h1_⟩
                have n2_ : Aside0 (w50.heap[gb115]? = some (.cells #[.int .u8 a0_0, .int .u8 a0_1, .int .u8 a0_2, .int .u8 a0_3, .int .u64 a0_4, .bool false, .bool a0_6, .int .u64 a0_7] 47 (0, 0))) := ⟨h2_⟩
                have n3_ : Aside0 (w50.heap[gb116]? = some (.cells #[.int .u64 0, .string (⟨#[]⟩ : ByteArray), .slice none 0 0, .int .u64 0, .bool false, .bool false] 34 (0, 0))) := ⟨h3_⟩
                have n4_ : Aside0 (Below w.heap.size w w50) := ⟨h4_⟩
                clear BK115
                clear BK116
                clear HB
                clear h0_ h1_ h2_ h3_ h4_
                have HO119 := n0_
                have HO122 := n1_
                have BK115 := n2_
                have BK116 := n3_
                have HB := n4_
                clear n0_ n1_ n2_ n3_ n4_
                have hHeld := trivial
                refine norm_ (a' := ?_) ?_ ?_
                rotate_left
                · simp only [putAll, Act.put, List.setIfInBounds_toArray, List.set_cons_zero, List.set_cons_succ]
                  rfl
                refine one_ (i := 1) (N := some 8) #[true, true, true, true, false, false] rfl rfl (by kernel_rfl) (by decide) (fun K hK => ?_)
                have hcv51 := own_string (P := Try.prog) Try.underlying22 Try.underlying5 Try.underlying9 (Kd.own_of_R HO119.out)
                refine value_ (w1 := ?_) (v := ?_) (by rfl) rfl ?_ ?_
                rotate_left 2
                · go_simp
                  constructor
                  · rfl
                  · rfl
                clear hcv51
                refine hK.out _ _ trivial (fun hHeld => ?_)
                clear hK K
                refine norm_ (a' := ?_) ?_ ?_
                rotate_left
                · show Act.put _ (some 8) _ = _
                  simp only [Act.put, List.setIfInBounds_toArray, List.set_cons_zero, List.set_cons_succ, i64_w, i32_w]
                  rfl
                exact norm_ (by first | (simp only [putAll, Act.put, List.setIfInBounds_toArray, List.set_cons_zero, List.set_cons_succ]; done) | (simp only [putAll, Act.put, List.setIfInBounds_toArray, List.set_cons_zero, List.set_cons_succ]; rfl)) (hJ0_1_2_3 (v118, v121) _ ⟨(by (with_reducible repeat (first | apply Kd.R_alloc | apply Kd.R_drewN | apply Kd.R_drew)); exact HO119.out), (by (with_reducible repeat (first | apply Kd.R_alloc | apply Kd.R_drewN | apply Kd.R_drew)); exact HO122.out), (by (with_reducible repeat (first | refine blk_drewN ?_ _ | refine blk_drew ?_ | refine blk_alloc ?_ _)); exact BK115.out), (by (with_reducible repeat (first | refine blk_drewN ?_ _ | refine blk_drew ?_ | refine blk_alloc ?_ _)); exact BK116.out), (by repeat (first | (with_reducible first | exact HB.out | apply below_alloc | apply pw_below_drewN | apply below_drew1 | refine below_set ?_ GE115.out | refine below_set ?_ GE116.out) | exact HB.out))⟩)
            · skip
              rintro ⟨v118, v121⟩ w50 ⟨h0_, h1_, h2_, h3_, h4_⟩
              have n0_ : Aside0 (Kd.R (Kd.int .u8) 5 w50 w.heap.size (fun k_ => some k_ ≠ (v121 : Value).ownBlock) v118 y117) := ⟨h0_⟩
              have n1_ : Aside0 (Kd.R (Kd.int .u8) 5 w50 w.heap.size (fun k_ => some k_ ≠ (v118 : Value).ownBlock) v121 y120) := ⟨h1_⟩
              have n2_ : Aside0 (w50.heap[gb115]? = some (.cells #[.int .u8 a0_0, .int .u8 a0_1, .int .u8 a0_2, .int .u8 a0_3, .int .u64 a0_4, .bool false, .bool a0_6, .int .u64 a0_7] 47 (0, 0))) := ⟨h2_⟩
              have n3_ : Aside0 (w50.heap[gb116]? = some (.cells #[.int .u64 0, .string (⟨#[]⟩ : ByteArray), .slice none 0 0, .int .u64 0, .bool false, .bool false] 34 (0, 0))) := ⟨h3_⟩
              have n4_ : Aside0 (Below w.heap.size w w50) := ⟨h4_⟩
              clear BK115
              clear BK116
              clear HB
              clear h0_ h1_ h2_ h3_ h4_
              have HO119 := n0_
              have HO122 := n1_
              have BK115 := n2_
              have BK116 := n3_
              have HB := n4_
              clear n0_ n1_ n2_ n3_ n4_
              have hHeld := trivial
              refine norm_ (a' := ?_) ?_ ?_
              rotate_left
              · simp only [putAll, Act.put, List.setIfInBounds_toArray, List.set_cons_zero, List.set_cons_succ]
                rfl
              refine one_ (i := 3) (N := some 10) #[true, true, true, true, false, false] rfl rfl (by kernel_rfl) (by decide) (fun K hK => ?_)
              have hcv51 := own_string (P := Try.prog) Try.underlying22 Try.underlying5 Try.underlying9 (Kd.own_of_R HO122.out)
              refine value_ (w1 := ?_) (v := ?_) (by rfl) rfl ?_ ?_
              rotate_left 2
              · go_simp
                constructor
                · rfl
                · rfl
              clear hcv51
              refine hK.out _ _ trivial (fun hHeld => ?_)
              clear hK K
              refine norm_ (a' := ?_) ?_ ?_
              rotate_left
              · show Act.put _ (some 10) _ = _
                simp only [Act.put, List.setIfInBounds_toArray, List.set_cons_zero, List.set_cons_succ, i64_w, i32_w]
                rfl
              exact norm_ (by first | (simp only [putAll, Act.put, List.setIfInBounds_toArray, List.set_cons_zero, List.set_cons_succ]; done) | (simp only [putAll, Act.put, List.setIfInBounds_toArray, List.set_cons_zero, List.set_cons_succ]; rfl)) (hJ0_1_2_3 (v118, v121) _ ⟨(by (with_reducible repeat (first | apply Kd.R_alloc | apply Kd.R_drewN | apply Kd.R_drew)); exact HO119.out), (by (with_reducible repeat (first | apply Kd.R_alloc | apply Kd.R_drewN | apply Kd.R_drew)); exact HO122.out), (by (with_reducible repeat (first | refine blk_drewN ?_ _ | refine blk_drew ?_ | refine blk_alloc ?_ _)); exact BK115.out), (by (with_reducible repeat (first | refine blk_drewN ?_ _ | refine blk_drew ?_ | refine blk_alloc ?_ _)); exact BK116.out), (by repeat (first | (with_reducible first | exact HB.out | apply below_alloc | apply pw_below_drewN | apply below_drew1 | refine below_set ?_ GE115.out | refine below_set ?_ GE116.out) | exact HB.out))⟩)
          rintro ⟨v118, v121⟩ w51 ⟨h0_, h1_, h2_, h3_, h4_⟩
          have n0_ : Aside0 (Kd.R (Kd.int .u8) 5 w51 w.heap.size (fun k_ => some k_ ≠ (v121 : Value).ownBlock) v118 y117) := ⟨h0_⟩
          have n1_ : Aside0 (Kd.R (Kd.int .u8) 5 w51 w.heap.size (fun k_ => some k_ ≠ (v118 : Value).ownBlock) v121 y120) := ⟨h1_⟩
          have n2_ : Aside0 (w51.heap[gb115]? = some (.cells #[.int .u8 a0_0, .int .u8 a0_1, .int .u8 a0_2, .int .u8 a0_3, .int .u64 a0_4, .bool false, .bool a0_6, .int .u64 a0_7] 47 (0, 0))) := ⟨h2_⟩
          have n3_ : Aside0 (w51.heap[gb116]? = some (.cells #[.int .u64 0, .string (⟨#[]⟩ : ByteArray), .slice none 0 0, .int .u64 0, .bool false, .bool false] 34 (0, 0))) := ⟨h3_⟩
          have n4_ : Aside0 (Below w.heap.size w w51) := ⟨h4_⟩
          clear BK115
          clear BK116
          clear HB
          clear h0_ h1_ h2_ h3_ h4_
          have HO119 := n0_
          have HO122 := n1_
          have BK115 := n2_
          have BK116 := n3_
          have HB := n4_
          clear n0_ n1_ n2_ n3_ n4_
          have hHeld := trivial
          refine norm_ (a' := ?_) ?_ ?_
          rotate_left
          · simp only [putAll, Act.put, List.setIfInBounds_toArray, List.set_cons_zero, List.set_cons_succ]
            rfl
          refine one_ (i := 4) (N := some 11) #[true, true, true, true, true, false] rfl rfl (by kernel_rfl) (by decide) (fun K hK => ?_)
          refine Kd.R_lit_step Kd.string _ 9 ?hg (N := 11) ?hd (xs := ([(⟨#[117]⟩ : ByteArray), (⟨#[118]⟩ : ByteArray), (⟨#[]⟩ : ByteArray), strOfNums y117, strOfNums y120] : List ByteArray)) (inner := [.string (⟨#[117]⟩ : ByteArray), .string (⟨#[118]⟩ : ByteArray), .string (⟨#[]⟩ : ByteArray), .string (strOfNums y117), .string (strOfNums y120)]) (ok := fun _ => True) (okp := fun _ => True) ?hr ?hp (fun _ hk => hk) trivial (Below.refl _ _) (Nat.le_refl _) (by simp) ?_; (case hd => rfl); (case hg => rfl); (case hr => first | (go_simp; done) | (go_simp; rfl)); (case hp => exact (Reps.one (show Kd.M Kd.string _ _ _ (⟨#[117]⟩ : ByteArray) [.string (⟨#[117]⟩ : ByteArray)] from rfl) (Reps.one (show Kd.M Kd.string _ _ _ (⟨#[118]⟩ : ByteArray) [.string (⟨#[118]⟩ : ByteArray)] from rfl) (Reps.one (show Kd.M Kd.string _ _ _ (⟨#[]⟩ : ByteArray) [.string (⟨#[]⟩ : ByteArray)] from rfl) (Reps.one (show Kd.M Kd.string _ _ _ (strOfNums y117) [.string (strOfNums y117)] from rfl) (Reps.one (show Kd.M Kd.string _ _ _ (strOfNums y120) [.string (strOfNums y120)] from rfl) (Reps.none _ _)))))))
          intro v124 w52 ho53 hb hg_ hnew_
          clear hg_ hnew_
          (first | rw [← Ny123.out] at ho53 | (simp only [Int.reduceToNat] at ho53; rw [← Ny123.out] at ho53))
          have n0_ := Aside0.mk (Kd.R_below (by (with_reducible repeat (first | apply Kd.R_alloc | apply Kd.R_drewN | apply Kd.R_drew)); exact HO119.out) hb)
          have n1_ := Aside0.mk (Kd.R_below (by (with_reducible repeat (first | apply Kd.R_alloc | apply Kd.R_drewN | apply Kd.R_drew)); exact HO122.out) hb)
          have n2_ := Aside0.mk (Kd.R_lower ho53 (below_size (by repeat (first | (with_reducible first | exact HB.out | apply below_alloc | apply pw_below_drewN | apply below_drew1 | refine below_set ?_ GE115.out | refine below_set ?_ GE116.out) | exact HB.out))))
          have n3_ := Aside0.mk (blk_below (g := gb115) (o := .cells #[.int .u8 a0_0, .int .u8 a0_1, .int .u8 a0_2, .int .u8 a0_3, .int .u64 a0_4, .bool false, .bool a0_6, .int .u64 a0_7] 47 (0, 0)) (by (with_reducible repeat (first | refine blk_drewN ?_ _ | refine blk_drew ?_ | refine blk_alloc ?_ _)); exact BK115.out) hb)
          have n4_ := Aside0.mk (blk_below (g := gb116) (o := .cells #[.int .u64 0, .string (⟨#[]⟩ : ByteArray), .slice none 0 0, .int .u64 0, .bool false, .bool false] 34 (0, 0)) (by (with_reducible repeat (first | refine blk_drewN ?_ _ | refine blk_drew ?_ | refine blk_alloc ?_ _)); exact BK116.out) hb)
          have n5_ := Aside0.mk (below_step (by repeat (first | (with_reducible first | exact HB.out | apply below_alloc | apply pw_below_drewN | apply below_drew1 | refine below_set ?_ GE115.out | refine below_set ?_ GE116.out) | exact HB.out)) hb)
          clear HO119
          clear HO122
          clear BK115
          clear BK116
          clear HB
          have HO119 := n0_
          have HO122 := n1_
          have HO125 := n2_
          have BK115 := n3_
          have BK116 := n4_
          have HB := n5_
          clear n0_ n1_ n2_ n3_ n4_ n5_
          clear hb ho53
          refine hK.out _ _ trivial (fun hHeld => ?_)
          clear hK K
          refine norm_ (a' := ?_) ?_ ?_
          rotate_left
          · show Act.put _ (some 11) _ = _
            simp only [Act.put, List.setIfInBounds_toArray, List.set_cons_zero, List.set_cons_succ, i64_w, i32_w]
            rfl
          refine pure_ (i := 5) (N := some 3) (v := ?_) (a' := ?_) #[true, true, true, true, true, true] rfl rfl (by kernel_rfl) (fun _ _ _ h => h) (Or.inl ⟨by rfl, ?_⟩) ?_ ?_
          rotate_left
          · intro w'
            go_simp
            with_reducible rfl
          rotate_left
          · simp only [Act.put, List.setIfInBounds_toArray, List.set_cons_zero, List.set_cons_succ, i64_w, i32_w]
            rfl
          refine done_ (by kernel_rfl) ?_
          try go_wp2_with (first | ((with_reducible refine gate_dst (N := 12) rfl ?_); refine Kd.R_lit (Kd.int .i64) _ 3 ?hg (N := 12) ?hd (xs := ([16, 64, 15, 65, 20, 0] : List Int)) (inner := [.int .i64 16, .int .i64 64, .int .i64 15, .int .i64 65, .int .i64 20, .int .i64 0]) (ok := fun _ => True) (okp := fun _ => True) ?hr ?hp (fun _ hk => hk) trivial (Below.refl _ _) (Nat.le_refl _) (by simp) ?_; (case hd => rfl); (case hg => rfl); (case hr => first | (go_simp; done) | (go_simp; rfl)); (case hp => exact (Reps.one (show Kd.M (Kd.int .i64) _ _ _ 16 [.int .i64 16] from rfl) (Reps.one (show Kd.M (Kd.int .i64) _ _ _ 64 [.int .i64 64] from rfl) (Reps.one (show Kd.M (Kd.int .i64) _ _ _ 15 [.int .i64 15] from rfl) (Reps.one (show Kd.M (Kd.int .i64) _ _ _ 65 [.int .i64 65] from rfl) (Reps.one (show Kd.M (Kd.int .i64) _ _ _ 20 [.int .i64 20] from rfl) (Reps.one (show Kd.M (Kd.int .i64) _ _ _ 0 [.int .i64 0] from rfl) (Reps.none _ _)))))))); intro v127 w54 ho55 hb hg_ hnew_; clear hg_ hnew_; (first | rw [← Ny126.out] at ho55 | (simp only [Int.reduceToNat] at ho55; rw [← Ny126.out] at ho55)); have n0_ := Aside0.mk (Kd.R_below (by (with_reducible repeat (first | apply Kd.R_alloc | apply Kd.R_drewN | apply Kd.R_drew)); exact HO119.out) hb); have n1_ := Aside0.mk (Kd.R_below (by (with_reducible repeat (first | apply Kd.R_alloc | apply Kd.R_drewN | apply Kd.R_drew)); exact HO122.out) hb); have n2_ := Aside0.mk (Kd.R_below (by (with_reducible repeat (first | apply Kd.R_alloc | apply Kd.R_drewN | apply Kd.R_drew)); exact HO125.out) hb); have n3_ := Aside0.mk (Kd.R_lower ho55 (below_size (by repeat (first | (with_reducible first | exact HB.out | apply below_alloc | apply pw_below_drewN | apply below_drew1 | refine below_set ?_ GE115.out | refine below_set ?_ GE116.out) | exact HB.out)))); have n4_ := Aside0.mk (blk_below (g := gb115) (o := .cells #[.int .u8 a0_0, .int .u8 a0_1, .int .u8 a0_2, .int .u8 a0_3, .int .u64 a0_4, .bool false, .bool a0_6, .int .u64 a0_7] 47 (0, 0)) (by (with_reducible repeat (first | refine blk_drewN ?_ _ | refine blk_drew ?_ | refine blk_alloc ?_ _)); exact BK115.out) hb); have n5_ := Aside0.mk (blk_below (g := gb116) (o := .cells #[.int .u64 0, .string (⟨#[]⟩ : ByteArray), .slice none 0 0, .int .u64 0, .bool false, .bool false] 34 (0, 0)) (by (with_reducible repeat (first | refine blk_drewN ?_ _ | refine blk_drew ?_ | refine blk_alloc ?_ _)); exact BK116.out) hb); have n6_ := Aside0.mk (below_step (by repeat (first | (with_reducible first | exact HB.out | apply below_alloc | apply pw_below_drewN | apply below_drew1 | refine below_set ?_ GE115.out | refine below_set ?_ GE116.out) | exact HB.out)) hb); clear HO119; clear HO122; clear HO125; clear BK115; clear BK116; clear HB; have HO119 := n0_; have HO122 := n1_; have HO125 := n2_; have HO128 := n3_; have BK115 := n4_; have BK116 := n5_; have HB := n6_; clear n0_ n1_ n2_ n3_ n4_ n5_ n6_; clear hb ho55; have hnb56 := NB115_116.out; have hnc56 := NB116_115.out; have hcz57_0 : w54.cell? ⟨gb115, 0, none⟩ = some (.int .u8 a0_0) := (blk_cell BK115.out 0).trans rfl; have hcz57_1 : w54.cell? ⟨gb115, 1, none⟩ = some (.int .u8 a0_1) := (blk_cell BK115.out 1).trans rfl; have hcz57_2 : w54.cell? ⟨gb115, 2, none⟩ = some (.int .u8 a0_2) := (blk_cell BK115.out 2).trans rfl; have hcz57_3 : w54.cell? ⟨gb115, 3, none⟩ = some (.int .u8 a0_3) := (blk_cell BK115.out 3).trans rfl; have hcz57_4 : w54.cell? ⟨gb115, 4, none⟩ = some (.int .u64 a0_4) := (blk_cell BK115.out 4).trans rfl; have hcz57_5 : w54.cell? ⟨gb115, 5, none⟩ = some (.bool false) := (blk_cell BK115.out 5).trans rfl; have hcz57_6 : w54.cell? ⟨gb115, 6, none⟩ = some (.bool a0_6) := (blk_cell BK115.out 6).trans rfl; have hcz57_7 : w54.cell? ⟨gb115, 7, none⟩ = some (.int .u64 a0_7) := (blk_cell BK115.out 7).trans rfl; have hfz57_0 := blk_frozen BK115.out 0; have hfz57_1 := blk_frozen BK115.out 1; have hfz57_2 := blk_frozen BK115.out 2; have hfz57_3 := blk_frozen BK115.out 3; have hfz57_4 := blk_frozen BK115.out 4; have hfz57_5 := blk_frozen BK115.out 5; have hfz57_6 := blk_frozen BK115.out 6; have hfz57_7 := blk_frozen BK115.out 7))
          have n0_ := Aside0.mk (Kd.R_drew HO119.out)
          have n1_ := Aside0.mk (Kd.R_drew HO122.out)
          have n2_ := Aside0.mk (Kd.R_drew HO125.out)
          have n3_ := Aside0.mk (Kd.R_drew HO128.out)
          have n4_ := Aside0.mk (blk_drew BK115.out)
          have n5_ := Aside0.mk (blk_drew BK116.out)
          have n6_ := Aside0.mk (below_drew1 HB.out)
          clear HO119
          clear HO122
          clear HO125
          clear HO128
          clear BK115
          clear BK116
          clear HB
          have HO119 := n0_
          have HO122 := n1_
          have HO125 := n2_
          have HO128 := n3_
          have BK115 := n4_
          have BK116 := n5_
          have HB := n6_
          clear n0_ n1_ n2_ n3_ n4_ n5_ n6_
          obtain ⟨Ao59, co59, eo59⟩ := Kd.R_slice HO125.out
          (first | subst eo59 | (injection eo59 with f1_ f2_ f3_; have f4_ := f1_.symm; have f5_ := f3_.symm; clear f1_ f2_ f3_; subst f4_; subst f5_))
          have p134 : 0 ≤ (0 : Int) := (by omega)
          have q134 : 0 < (y123.length : Int) := of_decide_eq_true (by first | (with_reducible assumption) | assumption)
          obtain ⟨ad134, e134, hx134_0⟩ := Kd.at_string (Kd.R_reads' HO125.out).2.2 0 p134 q134
          cases e134
          have qi134 : (0 < y123.length) = True := eq_true (by omega)
          (try rw [show ((0 : Int)).toNat = 0 from rfl] at hx134_0)
          (try rw [Addr.add_zero'] at hx134_0)
          replace p134 := eq_true p134
          replace q134 := eq_true q134
          refine start_ (n := 20) (S := fun w' => w'.cell? ⟨gb115, 0, none⟩ = some (.int .u8 a0_0) ∧ w'.cell? ⟨gb115, 1, none⟩ = some (.int .u8 a0_1) ∧ w'.cell? ⟨gb115, 2, none⟩ = some (.int .u8 a0_2) ∧ w'.cell? ⟨gb115, 3, none⟩ = some (.int .u8 a0_3) ∧ w'.cell? ⟨gb115, 4, none⟩ = some (.int .u64 a0_4) ∧ w'.cell? ⟨gb115, 5, none⟩ = some (.bool false) ∧ w'.cell? ⟨gb115, 6, none⟩ = some (.bool a0_6) ∧ w'.cell? ⟨gb115, 7, none⟩ = some (.int .u64 a0_7) ∧ w'.cell? ad134 = some (.string (rdOf ByteArray.empty y123 0))) (ds := []) #[false, false, false, false, false, false, false, false, false, false, false, false, false, false, false, false, false, false, false, false] (by kernel_rfl) rfl rfl ⟨(blk_cell BK115.out 0).trans rfl, (blk_cell BK115.out 1).trans rfl, (blk_cell BK115.out 2).trans rfl, (blk_cell BK115.out 3).trans rfl, (blk_cell BK115.out 4).trans rfl, (blk_cell BK115.out 5).trans rfl, (blk_cell BK115.out 6).trans rfl, (blk_cell BK115.out 7).trans rfl, hx134_0⟩ (fun hHeld => ?_); refine with_tabW latchkeylaw20_session.tab6 latchkeylaw20_session.bits6 (fun HT_ HW_ => ?_)
          generalize w54.drew = w58 at HO119 HO122 HO125 HO128 BK115 BK116 HB hx134_0 hHeld ⊢
          refine pure_ (i := 0) (N := some 25) (v := ?_) (a' := ?_) #[true, false, false, false, false, false, false, false, false, false, false, false, false, false, false, false, false, false, false, false] rfl rfl (any_of HT_.out (by kernel_rfl)) (fun _ _ _ h => h) (Or.inl ⟨by rfl, ?_⟩) ?_ ?_
          rotate_left
          · intro w'
            go_simp
            with_reducible rfl
          rotate_left
          · simp only [Act.put, List.setIfInBounds_toArray, List.set_cons_zero, List.set_cons_succ, i64_w, i32_w]
            rfl
          refine pure_ (i := 2) (N := some 27) (v := ?_) (a' := ?_) #[true, false, true, false, false, false, false, false, false, false, false, false, false, false, false, false, false, false, false, false] rfl rfl (any_of HT_.out (by kernel_rfl)) (fun _ _ _ h => h) (Or.inl ⟨by rfl, ?_⟩) ?_ ?_
          rotate_left
          · intro w'
            go_simp
            with_reducible rfl
          rotate_left
          · simp only [Act.put, List.setIfInBounds_toArray, List.set_cons_zero, List.set_cons_succ, i64_w, i32_w]
            rfl
          refine pure_ (i := 3) (N := some 28) (v := ?_) (a' := ?_) #[true, false, true, true, false, false, false, false, false, false, false, false, false, false, false, false, false, false, false, false] rfl rfl (any_of HT_.out (by kernel_rfl)) (fun _ _ _ h => h) (Or.inl ⟨by rfl, ?_⟩) ?_ ?_
          rotate_left
          · intro w'
            go_simp
            with_reducible rfl
          rotate_left
          · simp only [Act.put, List.setIfInBounds_toArray, List.set_cons_zero, List.set_cons_succ, i64_w, i32_w]
            rfl
          refine pure_ (i := 4) (N := some 29) (v := ?_) (a' := ?_) #[true, false, true, true, true, false, false, false, false, false, false, false, false, false, false, false, false, false, false, false] rfl rfl (any_of HT_.out (by kernel_rfl)) (fun _ _ _ h => h) (Or.inl ⟨by rfl, ?_⟩) ?_ ?_
          rotate_left
          · intro w'
            go_simp
            with_reducible rfl
          rotate_left
          · simp only [Act.put, List.setIfInBounds_toArray, List.set_cons_zero, List.set_cons_succ, i64_w, i32_w]
            rfl
          refine pure_ (i := 6) (N := some 31) (v := ?_) (a' := ?_) #[true, false, true, true, true, false, true, false, false, false, false, false, false, false, false, false, false, false, false, false] rfl rfl (any_of HT_.out (by kernel_rfl)) (fun _ _ _ h => h) (Or.inl ⟨by rfl, ?_⟩) ?_ ?_
          rotate_left
          · intro w'
            go_simp
            with_reducible rfl
          rotate_left
          · simp only [Act.put, List.setIfInBounds_toArray, List.set_cons_zero, List.set_cons_succ, i64_w, i32_w]
            rfl
          refine pure_ (i := 9) (N := some 34) (v := ?_) (a' := ?_) #[true, false, true, true, true, false, true, false, false, true, false, false, false, false, false, false, false, false, false, false] rfl rfl (any_of HT_.out (by kernel_rfl)) (fun _ _ _ h => h) (Or.inl ⟨by rfl, ?_⟩) ?_ ?_
          rotate_left
          · intro w'
            go_simp
            with_reducible rfl
          rotate_left
          · simp only [Act.put, List.setIfInBounds_toArray, List.set_cons_zero, List.set_cons_succ, i64_w, i32_w]
            rfl
          refine pure_ (i := 11) (N := some 36) (v := ?_) (a' := ?_) #[true, false, true, true, true, false, true, false, false, true, false, true, false, false, false, false, false, false, false, false] rfl rfl (any_of HT_.out (by kernel_rfl)) (fun _ _ _ h => h) (Or.inl ⟨by rfl, ?_⟩) ?_ ?_
          rotate_left
          · intro w'
            go_simp
            with_reducible rfl
          rotate_left
          · simp only [Act.put, List.setIfInBounds_toArray, List.set_cons_zero, List.set_cons_succ, i64_w, i32_w]
            rfl
          refine pure_ (i := 13) (N := some 38) (v := ?_) (a' := ?_) #[true, false, true, true, true, false, true, false, false, true, false, true, false, true, false, false, false, false, false, false] rfl rfl (any_of HT_.out (by kernel_rfl)) (fun _ _ _ h => h) (Or.inl ⟨by rfl, ?_⟩) ?_ ?_
          rotate_left
          · intro w'
            go_simp
            with_reducible rfl
          rotate_left
          · simp only [Act.put, List.setIfInBounds_toArray, List.set_cons_zero, List.set_cons_succ, i64_w, i32_w]
            rfl
          refine pure_ (i := 15) (N := some 40) (v := ?_) (a' := ?_) #[true, false, true, true, true, false, true, false, false, true, false, true, false, true, false, true, false, false, false, false] rfl rfl (any_of HT_.out (by kernel_rfl)) (fun _ _ _ h => h) (Or.inl ⟨by rfl, ?_⟩) ?_ ?_
          rotate_left
          · intro w'
            go_simp
            with_reducible rfl
          rotate_left
          · simp only [Act.put, List.setIfInBounds_toArray, List.set_cons_zero, List.set_cons_succ, i64_w, i32_w]
            rfl
          refine take_ (i := 1) (N := some 26) (v := ?_) (a' := ?_) #[true, true, true, true, true, false, true, false, false, true, false, true, false, true, false, true, false, false, false, false] rfl rfl (take_ofW HT_.out HW_.out (by kernel_rfl)) (fun _ _ _ h => h) (Or.inl ⟨by rfl, ?_⟩) hHeld ?_ ?_
          rotate_left
          · rintro w' ⟨s0, s1, s2, s3, s4, s5, s6, s7, s8⟩
            go_simp
            with_reducible rfl
          rotate_left
          · simp only [Act.put, List.setIfInBounds_toArray, List.set_cons_zero, List.set_cons_succ, i64_w, i32_w]
            rfl
          refine take_ (i := 5) (N := some 30) (v := ?_) (a' := ?_) #[true, true, true, true, true, true, true, false, false, true, false, true, false, true, false, true, false, false, false, false] rfl rfl (take_ofW HT_.out HW_.out (by kernel_rfl)) (fun _ _ _ h => h) (Or.inl ⟨by rfl, ?_⟩) hHeld ?_ ?_
          rotate_left
          · rintro w' ⟨s0, s1, s2, s3, s4, s5, s6, s7, s8⟩
            go_simp
            with_reducible rfl
          rotate_left
          · simp only [Act.put, List.setIfInBounds_toArray, List.set_cons_zero, List.set_cons_succ, i64_w, i32_w]
            rfl
          refine take_ (i := 7) (N := some 32) (v := ?_) (a' := ?_) #[true, true, true, true, true, true, true, true, false, true, false, true, false, true, false, true, false, false, false, false] rfl rfl (take_ofW HT_.out HW_.out (by kernel_rfl)) (fun _ _ _ h => h) (Or.inl ⟨by rfl, ?_⟩) hHeld ?_ ?_
          rotate_left
          · rintro w' ⟨s0, s1, s2, s3, s4, s5, s6, s7, s8⟩
            go_simp
            with_reducible rfl
          rotate_left
          · simp only [Act.put, List.setIfInBounds_toArray, List.set_cons_zero, List.set_cons_succ, i64_w, i32_w]
            rfl
          refine pure_ (i := 8) (N := some 33) (v := ?_) (a' := ?_) #[true, true, true, true, true, true, true, true, true, true, false, true, false, true, false, true, false, false, false, false] rfl rfl (any_of HT_.out (by kernel_rfl)) (fun _ _ _ h => h) (Or.inl ⟨by rfl, ?_⟩) ?_ ?_
          rotate_left
          · intro w'
            go_simp
            with_reducible rfl
          rotate_left
          · simp only [Act.put, List.setIfInBounds_toArray, List.set_cons_zero, List.set_cons_succ, i64_w, i32_w]
            rfl
          refine take_ (i := 12) (N := some 37) (v := ?_) (a' := ?_) #[true, true, true, true, true, true, true, true, true, true, false, true, true, true, false, true, false, false, false, false] rfl rfl (take_ofW HT_.out HW_.out (by kernel_rfl)) (fun _ _ _ h => h) (Or.inl ⟨by rfl, ?_⟩) hHeld ?_ ?_
          rotate_left
          · rintro w' ⟨s0, s1, s2, s3, s4, s5, s6, s7, s8⟩
            go_simp
            with_reducible rfl
          rotate_left
          · simp only [Act.put, List.setIfInBounds_toArray, List.set_cons_zero, List.set_cons_succ, i64_w, i32_w]
            rfl
          refine take_ (i := 14) (N := some 39) (v := ?_) (a' := ?_) #[true, true, true, true, true, true, true, true, true, true, false, true, true, true, true, true, false, false, false, false] rfl rfl (take_ofW HT_.out HW_.out (by kernel_rfl)) (fun _ _ _ h => h) (Or.inl ⟨by rfl, ?_⟩) hHeld ?_ ?_
          rotate_left
          · rintro w' ⟨s0, s1, s2, s3, s4, s5, s6, s7, s8⟩
            go_simp
            with_reducible rfl
          rotate_left
          · simp only [Act.put, List.setIfInBounds_toArray, List.set_cons_zero, List.set_cons_succ, i64_w, i32_w]
            rfl
          refine take_ (i := 16) (N := some 41) (v := ?_) (a' := ?_) #[true, true, true, true, true, true, true, true, true, true, false, true, true, true, true, true, true, false, false, false] rfl rfl (take_ofW HT_.out HW_.out (by kernel_rfl)) (fun _ _ _ h => h) (Or.inl ⟨by rfl, ?_⟩) hHeld ?_ ?_
          rotate_left
          · rintro w' ⟨s0, s1, s2, s3, s4, s5, s6, s7, s8⟩
            go_simp
            with_reducible rfl
          rotate_left
          · simp only [Act.put, List.setIfInBounds_toArray, List.set_cons_zero, List.set_cons_succ, i64_w, i32_w]
            rfl
          refine pure_ (i := 17) (N := some 42) (v := ?_) (a' := ?_) #[true, true, true, true, true, true, true, true, true, true, false, true, true, true, true, true, true, true, false, false] rfl rfl (any_of HT_.out (by kernel_rfl)) (fun _ _ _ h => h) (Or.inl ⟨by rfl, ?_⟩) ?_ ?_
          rotate_left
          · intro w'
            go_simp
            with_reducible rfl
          rotate_left
          · simp only [Act.put, List.setIfInBounds_toArray, List.set_cons_zero, List.set_cons_succ, i64_w, i32_w]
            rfl
          refine one_ (i := 10) (N := some 35) #[true, true, true, true, true, true, true, true, true, true, true, true, true, true, true, true, true, true, false, false] rfl rfl (one_of HT_.out (by kernel_rfl)) (by decide) (fun K hK => ?_)
          refine goes_ Try.func10 (by kernel_rfl) rfl #[.int .u8 (Int.tmod a0_2 12), .int .i64 20] (by rfl) rfl rfl (by (try simp only [List.map_toArray, List.map_cons, List.map_nil]); first | done | rfl | (simp only [List.length_drop, List.length_take]; rfl)) ?_
          with_reducible refine (latchkeyhand18_Draw.calls k (Int.tmod a0_2 12) 20 t135 _ A41.out).mono ?_
          rintro e w60 ⟨v136, rfl, ho0, hb⟩
          have HS8_ := (hb.cell (World.block_lt_of_cell? _ _ (hHeld.2.2.2.2.2.2.2.2))).trans (hHeld.2.2.2.2.2.2.2.2)
          refine ⟨_, rfl, ?_⟩
          have n0_ := Aside0.mk (Kd.R_elder' (by (with_reducible repeat (first | apply Kd.R_alloc | apply Kd.R_drewN | apply Kd.R_drew)); exact HO119.out) (Kd.R_base ho0) hb)
          have n1_ := Aside0.mk (Kd.R_elder' (by (with_reducible repeat (first | apply Kd.R_alloc | apply Kd.R_drewN | apply Kd.R_drew)); exact HO122.out) (Kd.R_base ho0) hb)
          have n2_ := Aside0.mk (Kd.R_below (by (with_reducible repeat (first | apply Kd.R_alloc | apply Kd.R_drewN | apply Kd.R_drew)); exact HO125.out) hb)
          have n3_ := Aside0.mk (Kd.R_below (by (with_reducible repeat (first | apply Kd.R_alloc | apply Kd.R_drewN | apply Kd.R_drew)); exact HO128.out) hb)
          have n4_ := Aside0.mk (Kd.R_lower (Kd.R_new' (Kd.R_new' ho0 (Kd.R_lt (by (with_reducible repeat (first | apply Kd.R_alloc | apply Kd.R_drewN | apply Kd.R_drew)); exact HO119.out))) (Kd.R_lt (by (with_reducible repeat (first | apply Kd.R_alloc | apply Kd.R_drewN | apply Kd.R_drew)); exact HO122.out))) (below_size (by repeat (first | (with_reducible first | exact HB.out | apply below_alloc | apply pw_below_drewN | apply below_drew1 | refine below_set ?_ GE115.out | refine below_set ?_ GE116.out) | exact HB.out))))
          have n5_ := Aside0.mk (blk_below (g := gb115) (o := .cells #[.int .u8 a0_0, .int .u8 a0_1, .int .u8 a0_2, .int .u8 a0_3, .int .u64 a0_4, .bool false, .bool a0_6, .int .u64 a0_7] 47 (0, 0)) (by (with_reducible repeat (first | refine blk_drewN ?_ _ | refine blk_drew ?_ | refine blk_alloc ?_ _)); exact BK115.out) hb)
          have n6_ := Aside0.mk (blk_below (g := gb116) (o := .cells #[.int .u64 0, .string (⟨#[]⟩ : ByteArray), .slice none 0 0, .int .u64 0, .bool false, .bool false] 34 (0, 0)) (by (with_reducible repeat (first | refine blk_drewN ?_ _ | refine blk_drew ?_ | refine blk_alloc ?_ _)); exact BK116.out) hb)
          have n7_ := Aside0.mk (below_step (by repeat (first | (with_reducible first | exact HB.out | apply below_alloc | apply pw_below_drewN | apply below_drew1 | refine below_set ?_ GE115.out | refine below_set ?_ GE116.out) | exact HB.out)) hb)
          clear HO119
          clear HO122
          clear HO125
          clear HO128
          clear BK115
          clear BK116
          clear HB
          have HO119 := n0_
          have HO122 := n1_
          have HO125 := n2_
          have HO128 := n3_
          have HO137 := n4_
          have BK115 := n5_
          have BK116 := n6_
          have HB := n7_
          clear n0_ n1_ n2_ n3_ n4_ n5_ n6_ n7_
          (try clear hb)
          (try clear hb2)
          (try clear hk)
          (try clear hi)
          (try clear ho0)
          obtain ⟨Ao61, co61, eo61⟩ := Kd.R_slice HO137.out
          (first | subst eo61 | (injection eo61 with f1_ f2_ f3_; have f4_ := f1_.symm; have f5_ := f3_.symm; clear f1_ f2_ f3_; subst f4_; subst f5_))
          refine hK.out _ _ ⟨(blk_cell BK115.out 0).trans rfl, (blk_cell BK115.out 1).trans rfl, (blk_cell BK115.out 2).trans rfl, (blk_cell BK115.out 3).trans rfl, (blk_cell BK115.out 4).trans rfl, (blk_cell BK115.out 5).trans rfl, (blk_cell BK115.out 6).trans rfl, (blk_cell BK115.out 7).trans rfl, HS8_⟩ (fun hHeld => ?_)
          clear hK K
          refine norm_ (a' := ?_) ?_ ?_
          rotate_left
          · show Act.put _ (some 35) _ = _
            simp only [Act.put, List.setIfInBounds_toArray, List.set_cons_zero, List.set_cons_succ, i64_w, i32_w]
            rfl
          refine pure_ (i := 18) (N := some 43) (v := ?_) (a' := ?_) #[true, true, true, true, true, true, true, true, true, true, true, true, true, true, true, true, true, true, true, false] rfl rfl (any_of HT_.out (by kernel_rfl)) (fun _ _ _ h => h) (Or.inl ⟨by rfl, ?_⟩) ?_ ?_
          rotate_left
          · intro w'
            go_simp
            with_reducible rfl
          rotate_left
          · simp only [Act.put, List.setIfInBounds_toArray, List.set_cons_zero, List.set_cons_succ, i64_w, i32_w]
            rfl
          refine one_ (i := 19) (N := none) #[true, true, true, true, true, true, true, true, true, true, true, true, true, true, true, true, true, true, true, true] rfl rfl (one_of HT_.out (by kernel_rfl)) (by decide) (fun K hK => ?_)
          have hs62 : w60.cell? ⟨gb116, 0, none⟩ = some (.int .u64 0) := (blk_cell BK116.out 0).trans rfl
          have hfs62 := blk_frozen BK116.out 0
          have hns62_0 := NB115_116.out
          have hms62_0 := NB116_115.out
          have hs63 : w60.cell? ⟨gb116, 1, none⟩ = some (.string (⟨#[]⟩ : ByteArray)) := (blk_cell BK116.out 1).trans rfl
          have hfs63 := blk_frozen BK116.out 1
          have hns63_0 := NB115_116.out
          have hms63_0 := NB116_115.out
          have hs64 : w60.cell? ⟨gb116, 2, none⟩ = some (.slice none 0 0) := (blk_cell BK116.out 2).trans rfl
          have hfs64 := blk_frozen BK116.out 2
          have hns64_0 := NB115_116.out
          have hms64_0 := NB116_115.out
          have hs65 : w60.cell? ⟨gb116, 3, none⟩ = some (.int .u64 0) := (blk_cell BK116.out 3).trans rfl
          have hfs65 := blk_frozen BK116.out 3
          have hns65_0 := NB115_116.out
          have hms65_0 := NB116_115.out
          have hs66 : w60.cell? ⟨gb116, 4, none⟩ = some (.bool false) := (blk_cell BK116.out 4).trans rfl
          have hfs66 := blk_frozen BK116.out 4
          have hns66_0 := NB115_116.out
          have hms66_0 := NB116_115.out
          have hs67 : w60.cell? ⟨gb116, 5, none⟩ = some (.bool false) := (blk_cell BK116.out 5).trans rfl
          have hfs67 := blk_frozen BK116.out 5
          have hns67_0 := NB115_116.out
          have hms67_0 := NB116_115.out
          refine skip_ (w1 := ?_) (by rfl) rfl ?_ ?_
          rotate_left
          · go_simp
            rfl
          refine hK.out _ _ ⟨((cell_far (p := ⟨gb116, _, none⟩) NB115_116.out _).trans (((cell_far (p := ⟨gb116, _, none⟩) NB115_116.out _).trans (((cell_far (p := ⟨gb116, _, none⟩) NB115_116.out _).trans (((cell_far (p := ⟨gb116, _, none⟩) NB115_116.out _).trans (((cell_far (p := ⟨gb116, _, none⟩) NB115_116.out _).trans (((cell_far (p := ⟨gb116, _, none⟩) NB115_116.out _).trans (hHeld.1)))))))))))), ((cell_far (p := ⟨gb116, _, none⟩) NB115_116.out _).trans (((cell_far (p := ⟨gb116, _, none⟩) NB115_116.out _).trans (((cell_far (p := ⟨gb116, _, none⟩) NB115_116.out _).trans (((cell_far (p := ⟨gb116, _, none⟩) NB115_116.out _).trans (((cell_far (p := ⟨gb116, _, none⟩) NB115_116.out _).trans (((cell_far (p := ⟨gb116, _, none⟩) NB115_116.out _).trans (hHeld.2.1)))))))))))), ((cell_far (p := ⟨gb116, _, none⟩) NB115_116.out _).trans (((cell_far (p := ⟨gb116, _, none⟩) NB115_116.out _).trans (((cell_far (p := ⟨gb116, _, none⟩) NB115_116.out _).trans (((cell_far (p := ⟨gb116, _, none⟩) NB115_116.out _).trans (((cell_far (p := ⟨gb116, _, none⟩) NB115_116.out _).trans (((cell_far (p := ⟨gb116, _, none⟩) NB115_116.out _).trans (hHeld.2.2.1)))))))))))), ((cell_far (p := ⟨gb116, _, none⟩) NB115_116.out _).trans (((cell_far (p := ⟨gb116, _, none⟩) NB115_116.out _).trans (((cell_far (p := ⟨gb116, _, none⟩) NB115_116.out _).trans (((cell_far (p := ⟨gb116, _, none⟩) NB115_116.out _).trans (((cell_far (p := ⟨gb116, _, none⟩) NB115_116.out _).trans (((cell_far (p := ⟨gb116, _, none⟩) NB115_116.out _).trans (hHeld.2.2.2.1)))))))))))), ((cell_far (p := ⟨gb116, _, none⟩) NB115_116.out _).trans (((cell_far (p := ⟨gb116, _, none⟩) NB115_116.out _).trans (((cell_far (p := ⟨gb116, _, none⟩) NB115_116.out _).trans (((cell_far (p := ⟨gb116, _, none⟩) NB115_116.out _).trans (((cell_far (p := ⟨gb116, _, none⟩) NB115_116.out _).trans (((cell_far (p := ⟨gb116, _, none⟩) NB115_116.out _).trans (hHeld.2.2.2.2.1)))))))))))), ((cell_far (p := ⟨gb116, _, none⟩) NB115_116.out _).trans (((cell_far (p := ⟨gb116, _, none⟩) NB115_116.out _).trans (((cell_far (p := ⟨gb116, _, none⟩) NB115_116.out _).trans (((cell_far (p := ⟨gb116, _, none⟩) NB115_116.out _).trans (((cell_far (p := ⟨gb116, _, none⟩) NB115_116.out _).trans (((cell_far (p := ⟨gb116, _, none⟩) NB115_116.out _).trans (hHeld.2.2.2.2.2.1)))))))))))), ((cell_far (p := ⟨gb116, _, none⟩) NB115_116.out _).trans (((cell_far (p := ⟨gb116, _, none⟩) NB115_116.out _).trans (((cell_far (p := ⟨gb116, _, none⟩) NB115_116.out _).trans (((cell_far (p := ⟨gb116, _, none⟩) NB115_116.out _).trans (((cell_far (p := ⟨gb116, _, none⟩) NB115_116.out _).trans (((cell_far (p := ⟨gb116, _, none⟩) NB115_116.out _).trans (hHeld.2.2.2.2.2.2.1)))))))))))), ((cell_far (p := ⟨gb116, _, none⟩) NB115_116.out _).trans (((cell_far (p := ⟨gb116, _, none⟩) NB115_116.out _).trans (((cell_far (p := ⟨gb116, _, none⟩) NB115_116.out _).trans (((cell_far (p := ⟨gb116, _, none⟩) NB115_116.out _).trans (((cell_far (p := ⟨gb116, _, none⟩) NB115_116.out _).trans (((cell_far (p := ⟨gb116, _, none⟩) NB115_116.out _).trans (hHeld.2.2.2.2.2.2.2.1)))))))))))), ((cell_far (p := ⟨gb116, _, none⟩) (by first | exact Kd.own_blk (Kd.R_ne HO125.out BK116.out (by decide)) | (rw [add_block]; exact Kd.own_blk (Kd.R_ne HO125.out BK116.out (by decide))) | (show (Addr.add _ _).block ≠ _; rw [add_block]; exact Kd.own_blk (Kd.R_ne HO125.out BK116.out (by decide))) | (dsimp only; exact Kd.own_blk (Kd.R_ne HO125.out BK116.out (by decide)))) _).trans (((cell_far (p := ⟨gb116, _, none⟩) (by first | exact Kd.own_blk (Kd.R_ne HO125.out BK116.out (by decide)) | (rw [add_block]; exact Kd.own_blk (Kd.R_ne HO125.out BK116.out (by decide))) | (show (Addr.add _ _).block ≠ _; rw [add_block]; exact Kd.own_blk (Kd.R_ne HO125.out BK116.out (by decide))) | (dsimp only; exact Kd.own_blk (Kd.R_ne HO125.out BK116.out (by decide)))) _).trans (((cell_far (p := ⟨gb116, _, none⟩) (by first | exact Kd.own_blk (Kd.R_ne HO125.out BK116.out (by decide)) | (rw [add_block]; exact Kd.own_blk (Kd.R_ne HO125.out BK116.out (by decide))) | (show (Addr.add _ _).block ≠ _; rw [add_block]; exact Kd.own_blk (Kd.R_ne HO125.out BK116.out (by decide))) | (dsimp only; exact Kd.own_blk (Kd.R_ne HO125.out BK116.out (by decide)))) _).trans (((cell_far (p := ⟨gb116, _, none⟩) (by first | exact Kd.own_blk (Kd.R_ne HO125.out BK116.out (by decide)) | (rw [add_block]; exact Kd.own_blk (Kd.R_ne HO125.out BK116.out (by decide))) | (show (Addr.add _ _).block ≠ _; rw [add_block]; exact Kd.own_blk (Kd.R_ne HO125.out BK116.out (by decide))) | (dsimp only; exact Kd.own_blk (Kd.R_ne HO125.out BK116.out (by decide)))) _).trans (((cell_far (p := ⟨gb116, _, none⟩) (by first | exact Kd.own_blk (Kd.R_ne HO125.out BK116.out (by decide)) | (rw [add_block]; exact Kd.own_blk (Kd.R_ne HO125.out BK116.out (by decide))) | (show (Addr.add _ _).block ≠ _; rw [add_block]; exact Kd.own_blk (Kd.R_ne HO125.out BK116.out (by decide))) | (dsimp only; exact Kd.own_blk (Kd.R_ne HO125.out BK116.out (by decide)))) _).trans (((cell_far (p := ⟨gb116, _, none⟩) (by first | exact Kd.own_blk (Kd.R_ne HO125.out BK116.out (by decide)) | (rw [add_block]; exact Kd.own_blk (Kd.R_ne HO125.out BK116.out (by decide))) | (show (Addr.add _ _).block ≠ _; rw [add_block]; exact Kd.own_blk (Kd.R_ne HO125.out BK116.out (by decide))) | (dsimp only; exact Kd.own_blk (Kd.R_ne HO125.out BK116.out (by decide)))) _).trans (hHeld.2.2.2.2.2.2.2.2))))))))))))⟩ (fun hHeld => ?_)
          clear hK K
          refine done_ (done_of HT_.out (by kernel_rfl)) ?_
          try go_wp2
          refine bodyPost_ret (results_cell_row rfl _ _ gb116 34 #[.int .u64 a0_4, .string (rdOf ByteArray.empty y123 0), .slice Ao61 t135.length co61, .int .u64 a0_7, .bool a0_6, .bool (!a0_6)] (0, 0) _ rfl (by (with_reducible repeat (first | refine blk_drewN ?_ _ | refine blk_drew ?_ | refine blk_alloc ?_ _)); refine blk_put (cs := #[.int .u64 a0_4, .string (rdOf ByteArray.empty y123 0), .slice Ao61 t135.length co61, .int .u64 a0_7, .bool a0_6, .bool false]) ?_ 5 _ rfl; (with_reducible repeat (first | refine blk_drewN ?_ _ | refine blk_drew ?_ | refine blk_alloc ?_ _)); refine blk_put (cs := #[.int .u64 a0_4, .string (rdOf ByteArray.empty y123 0), .slice Ao61 t135.length co61, .int .u64 a0_7, .bool false, .bool false]) ?_ 4 _ rfl; (with_reducible repeat (first | refine blk_drewN ?_ _ | refine blk_drew ?_ | refine blk_alloc ?_ _)); refine blk_put (cs := #[.int .u64 a0_4, .string (rdOf ByteArray.empty y123 0), .slice Ao61 t135.length co61, .int .u64 0, .bool false, .bool false]) ?_ 3 _ rfl; (with_reducible repeat (first | refine blk_drewN ?_ _ | refine blk_drew ?_ | refine blk_alloc ?_ _)); refine blk_put (cs := #[.int .u64 a0_4, .string (rdOf ByteArray.empty y123 0), .slice none 0 0, .int .u64 0, .bool false, .bool false]) ?_ 2 _ rfl; (with_reducible repeat (first | refine blk_drewN ?_ _ | refine blk_drew ?_ | refine blk_alloc ?_ _)); refine blk_put (cs := #[.int .u64 a0_4, .string (⟨#[]⟩ : ByteArray), .slice none 0 0, .int .u64 0, .bool false, .bool false]) ?_ 1 _ rfl; (with_reducible repeat (first | refine blk_drewN ?_ _ | refine blk_drew ?_ | refine blk_alloc ?_ _)); refine blk_put (cs := #[.int .u64 0, .string (⟨#[]⟩ : ByteArray), .slice none 0 0, .int .u64 0, .bool false, .bool false]) ?_ 0 _ rfl; (with_reducible repeat (first | refine blk_drewN ?_ _ | refine blk_drew ?_ | refine blk_alloc ?_ _)); exact BK116.out) Try.underlying34 rfl (by kernel_rfl)) rfl ?_
          exact ⟨_, by first | rfl | (simp [errW_none, errW_some] <;> rfl) | (simp [*, errW_none, errW_some] <;> rfl), by (with_reducible repeat (first | apply Kd.R_alloc | apply Kd.R_drewN | apply Kd.R_drew)); exact Kd.R_mono (Kd.R_far (p := ⟨gb116, 5, none⟩) (Kd.R_far (p := ⟨gb116, 4, none⟩) (Kd.R_far (p := ⟨gb116, 3, none⟩) (Kd.R_far (p := ⟨gb116, 2, none⟩) (Kd.R_far (p := ⟨gb116, 1, none⟩) (Kd.R_far (p := ⟨gb116, 0, none⟩) (Kd.R_types HO137.out BK116.out (by decide)) (fun _ hk => hk.2) (.int .u64 a0_4)) (fun _ hk => hk.2) (.string (rdOf ByteArray.empty y123 0))) (fun _ hk => hk.2) (.slice Ao61 t135.length co61)) (fun _ hk => hk.2) (.int .u64 a0_7)) (fun _ hk => hk.2) (.bool a0_6)) (fun _ hk => hk.2) (.bool (!a0_6))) (fun _ hk => trivial), by repeat (first | (with_reducible first | exact HB.out | apply below_alloc | apply pw_below_drewN | apply below_drew1 | refine below_set ?_ GE115.out | refine below_set ?_ GE116.out) | exact HB.out)⟩
        · rw [if_neg c40] at H
          exact absurd H (by simp)
    · rw [if_neg c3] at H
      exact absurd H (by simp)
  · rw [if_neg c2] at H
    exact absurd H (by simp)

end Go.Proofs.Ytphbpcmncelkhaa.PSessPlays
