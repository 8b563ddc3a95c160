-- PRINTED BY print.sh 35421559b90ae4d0a3588c463048766b98c2df88dd9212a6774a882060cdf62d: not written by this session
import Derived.Test.YtphbpcmncelkhaaPSessPlaysx0
namespace Go.Proofs.Ytphbpcmncelkhaa.PSessPlays
open Go.RowKit Go.Proofs.YtphbpcmncelkhaaW.PrintWords Go.Proofs.YtphbpcmncelkhaaW.PrintLast Go.Proofs.YtphbpcmncelkhaaW.PrintMore
attribute [local go_sem] max2_int min2_int max_two min_two max_three min_three max_four min_four   -- for this text's walks alone
set_option linter.unusedVariables false
set_option linter.unusedSimpArgs false

-- NOT PRINTED: function 13 (latchkeyref20_Book_Begin)

-- NOT PRINTED: function 14 (latchkeyref20_Book_Take)

/-! ### latchkeyref20_SameSessions: function 15 -/
def latchkeyref20_SameSessions.f (a0_0 : Int) (a0_1 : ByteArray) (l0_2 : List Int) (a0_3 : Int) (a0_4 : Bool) (a0_5 : Bool) (a1_0 : Int) (a1_1 : ByteArray) (l1_2 : List Int) (a1_3 : Int) (a1_4 : Bool) (a1_5 : Bool) : Option (Bool) := if a0_0 = a1_0 then (if a0_1.toList = a1_1.toList then (if (strOfNums l0_2).toList = (strOfNums l1_2).toList then (if a0_3 = a1_3 then (if (a0_4 == a1_4) = true then (some (a0_5 == a1_5)) else (some false)) else (some false)) else (some false)) else (some false)) else (some false)
set_option maxHeartbeats 8000000 in
set_option maxRecDepth 100000 in
theorem latchkeyref20_SameSessions.calls (a0_0 : Int) (a0_1 : ByteArray) (A0_2 : Option Addr) (c0_2 : Nat) (l0_2 : List Int) (a0_3 : Int) (a0_4 : Bool) (a0_5 : Bool) (a1_0 : Int) (a1_1 : ByteArray) (A1_2 : Option Addr) (c1_2 : Nat) (l1_2 : List Int) (a1_3 : Int) (a1_4 : Bool) (a1_5 : Bool) (r : Bool) (w : World) (hr0_2 : Kd.C (Kd.int .u8) w A0_2 l0_2.length l0_2) (hc0_2 : l0_2.length ≤ c0_2) (hr1_2 : Kd.C (Kd.int .u8) w A1_2 l1_2.length l1_2) (hc1_2 : l1_2.length ≤ c1_2) (h : latchkeyref20_SameSessions.f a0_0 a0_1 l0_2 a0_3 a0_4 a0_5 a1_0 a1_1 l1_2 a1_3 a1_4 a1_5 = some r) :
    Calls Try.prog 15 #[.agg #[.int .u64 a0_0, .string a0_1, .slice A0_2 l0_2.length c0_2, .int .u64 a0_3, .bool a0_4, .bool a0_5], .agg #[.int .u64 a1_0, .string a1_1, .slice A1_2 l1_2.length c1_2, .int .u64 a1_3, .bool a1_4, .bool a1_5]] w fun e w' => e = .returned (.bool r) ∧ Below w.heap.size w w' := by
  have hu34 := Try.underlying34
  have HR0_2 := Aside0.mk hr0_2
  have HC0_2 := Aside0.mk hc0_2
  clear hr0_2 hc0_2
  have HR1_2 := Aside0.mk hr1_2
  have HC1_2 := Aside0.mk hc1_2
  clear hr1_2 hc1_2
  have HB := Aside0.mk (Below.refl w.heap.size w)
  have H : (if a0_0 = a1_0 then (if a0_1.toList = a1_1.toList then (if (strOfNums l0_2).toList = (strOfNums l1_2).toList then (if a0_3 = a1_3 then (if (a0_4 == a1_4) = true then (some (a0_5 == a1_5)) else (some false)) else (some false)) else (some false)) else (some false)) else (some false)) = some r := h
  clear h
  by_cases c3 : a0_0 = a1_0
  · rw [if_pos c3] at H
    have c3b0 : (a0_0 == a1_0) = true := beq_iff_eq.mpr c3
    have c3b1 : (a0_0 != a1_0) = false := bne_eq_false_iff_eq.mpr c3
    clear c3
    by_cases c4 : a0_1.toList = a1_1.toList
    · rw [if_pos c4] at H
      have c4b0 : (a0_1.toList == a1_1.toList) = true := beq_iff_eq.mpr c4
      have c4b1 : (a0_1.toList != a1_1.toList) = false := bne_eq_false_iff_eq.mpr c4
      clear c4
      by_cases c5 : (strOfNums l0_2).toList = (strOfNums l1_2).toList
      · rw [if_pos c5] at H
        have c5b0 : ((strOfNums l0_2).toList == (strOfNums l1_2).toList) = true := beq_iff_eq.mpr c5
        have c5b1 : ((strOfNums l0_2).toList != (strOfNums l1_2).toList) = false := bne_eq_false_iff_eq.mpr c5
        clear c5
        by_cases c6 : a0_3 = a1_3
        · rw [if_pos c6] at H
          have c6b0 : (a0_3 == a1_3) = true := beq_iff_eq.mpr c6
          have c6b1 : (a0_3 != a1_3) = false := bne_eq_false_iff_eq.mpr c6
          clear c6
          by_cases c7 : (a0_4 == a1_4) = true
          · rw [if_pos c7] at H
            have c7b0 : (a0_4 == a1_4) = true := c7
            (try (have c7b1 : decide (a0_4 = a1_4) = true := by simpa using c7))
            (try (have c7b2 : (a0_4 == a1_4) = true := by simpa using c7))
            clear c7
            obtain rfl := Option.some.inj H
            go_enter Try.func15, Try.ntmps15
            go_wp2_with (first | ((with_reducible refine gate_dst (N := 2) rfl ?_); refine box_event ?hg (N := 2) ?hd (cs := #[.int .u64 a0_0, .string a0_1, .slice A0_2 l0_2.length c0_2, .int .u64 a0_3, .bool a0_4, .bool a0_5]) (t := 34) ?hr ?_; (case hd => rfl); (case hg => rfl); (case hr => first | (go_simp; done) | (go_simp; rfl)); intro gb148 hg w8 hbox hb; have n0_ := Aside0.mk (below_step (by repeat (first | (with_reducible first | exact HB.out | apply below_alloc | apply pw_below_drewN | apply below_drew1) | exact HB.out)) hb); have n1_ := Aside0.mk (hbox); have n2_ := Aside0.mk ((by rw [hg]; exact (below_size (by repeat (first | (with_reducible first | exact HB.out | apply below_alloc | apply pw_below_drewN | apply below_drew1) | exact HB.out))) : w.heap.size ≤ gb148)); have n3_ := Aside0.mk ((by rw [hg]; exact (below_size (by repeat (first | (with_reducible first | exact HB.out | apply below_alloc | apply pw_below_drewN | apply below_drew1) | exact HB.out))) : w.heap.size ≤ gb148)); clear HB; have HB := n0_; have BK148 := n1_; have GW148 := n2_; have GE148 := n3_; clear n0_ n1_ n2_ n3_; clear hb hbox hg) | ((with_reducible refine gate_dst (N := 3) rfl ?_); refine box_event ?hg (N := 3) ?hd (cs := #[.int .u64 a1_0, .string a1_1, .slice A1_2 l1_2.length c1_2, .int .u64 a1_3, .bool a1_4, .bool a1_5]) (t := 34) ?hr ?_; (case hd => rfl); (case hg => rfl); (case hr => first | (go_simp; done) | (go_simp; rfl)); intro gb149 hg w9 hbox hb; have n0_ := Aside0.mk (blk_below (g := gb148) (o := .cells #[.int .u64 a0_0, .string a0_1, .slice A0_2 l0_2.length c0_2, .int .u64 a0_3, .bool a0_4, .bool a0_5] 34 (0, 0)) (by (with_reducible repeat (first | refine blk_drewN ?_ _ | refine blk_drew ?_ | refine blk_alloc ?_ _)); exact BK148.out) hb); have n1_ := Aside0.mk (below_step (by repeat (first | (with_reducible first | exact HB.out | apply below_alloc | apply pw_below_drewN | apply below_drew1 | refine below_set ?_ GE148.out) | exact HB.out)) hb); have n2_ := Aside0.mk (hbox); have n3_ := Aside0.mk ((by rw [hg]; exact (below_size (by repeat (first | (with_reducible first | exact HB.out | apply below_alloc | apply pw_below_drewN | apply below_drew1 | refine below_set ?_ GE148.out) | exact HB.out))) : w.heap.size ≤ gb149)); have n4_ := Aside0.mk ((by rw [hg]; exact (below_size (by repeat (first | (with_reducible first | exact HB.out | apply below_alloc | apply pw_below_drewN | apply below_drew1 | refine below_set ?_ GE148.out) | exact HB.out))) : w.heap.size ≤ gb149)); have n5_ := Aside0.mk ((by rw [hg]; exact Nat.ne_of_lt (blk_lt (g := gb148) (o := .cells #[.int .u64 a0_0, .string a0_1, .slice A0_2 l0_2.length c0_2, .int .u64 a0_3, .bool a0_4, .bool a0_5] 34 (0, 0)) (by (with_reducible repeat (first | refine blk_drewN ?_ _ | refine blk_drew ?_ | refine blk_alloc ?_ _)); exact BK148.out)) : gb148 ≠ gb149)); have n6_ := Aside0.mk ((by rw [hg]; exact Nat.ne_of_gt (blk_lt (g := gb148) (o := .cells #[.int .u64 a0_0, .string a0_1, .slice A0_2 l0_2.length c0_2, .int .u64 a0_3, .bool a0_4, .bool a0_5] 34 (0, 0)) (by (with_reducible repeat (first | refine blk_drewN ?_ _ | refine blk_drew ?_ | refine blk_alloc ?_ _)); exact BK148.out)) : gb149 ≠ gb148)); clear BK148; clear HB; have BK148 := n0_; have HB := n1_; have BK149 := n2_; have GW149 := n3_; have GE149 := n4_; have NB148_149 := n5_; have NB149_148 := n6_; clear n0_ n1_ n2_ n3_ n4_ n5_ n6_; clear hb hbox hg; have hnb10 := NB148_149.out; have hnc10 := NB149_148.out; have hcz11_0 : w9.cell? ⟨gb148, 0, none⟩ = some (.int .u64 a0_0) := (blk_cell BK148.out 0).trans rfl; have hcz11_1 : w9.cell? ⟨gb148, 1, none⟩ = some (.string a0_1) := (blk_cell BK148.out 1).trans rfl; have hcz11_2 : w9.cell? ⟨gb148, 2, none⟩ = some (.slice A0_2 l0_2.length c0_2) := (blk_cell BK148.out 2).trans rfl; have hcz11_3 : w9.cell? ⟨gb148, 3, none⟩ = some (.int .u64 a0_3) := (blk_cell BK148.out 3).trans rfl; have hcz11_4 : w9.cell? ⟨gb148, 4, none⟩ = some (.bool a0_4) := (blk_cell BK148.out 4).trans rfl; have hcz11_5 : w9.cell? ⟨gb148, 5, none⟩ = some (.bool a0_5) := (blk_cell BK148.out 5).trans rfl; have hfz11_0 := blk_frozen BK148.out 0; have hfz11_1 := blk_frozen BK148.out 1; have hfz11_2 := blk_frozen BK148.out 2; have hfz11_3 := blk_frozen BK148.out 3; have hfz11_4 := blk_frozen BK148.out 4; have hfz11_5 := blk_frozen BK148.out 5; have hcz12_0 : w9.cell? ⟨gb149, 0, none⟩ = some (.int .u64 a1_0) := (blk_cell BK149.out 0).trans rfl; have hcz12_1 : w9.cell? ⟨gb149, 1, none⟩ = some (.string a1_1) := (blk_cell BK149.out 1).trans rfl; have hcz12_2 : w9.cell? ⟨gb149, 2, none⟩ = some (.slice A1_2 l1_2.length c1_2) := (blk_cell BK149.out 2).trans rfl; have hcz12_3 : w9.cell? ⟨gb149, 3, none⟩ = some (.int .u64 a1_3) := (blk_cell BK149.out 3).trans rfl; have hcz12_4 : w9.cell? ⟨gb149, 4, none⟩ = some (.bool a1_4) := (blk_cell BK149.out 4).trans rfl; have hcz12_5 : w9.cell? ⟨gb149, 5, none⟩ = some (.bool a1_5) := (blk_cell BK149.out 5).trans rfl; have hfz12_0 := blk_frozen BK149.out 0; have hfz12_1 := blk_frozen BK149.out 1; have hfz12_2 := blk_frozen BK149.out 2; have hfz12_3 := blk_frozen BK149.out 3; have hfz12_4 := blk_frozen BK149.out 4; have hfz12_5 := blk_frozen BK149.out 5; have hcv13 := Kd.C_string (P := Try.prog) (A := A0_2) (c := c0_2) Try.underlying22 Try.underlying5 Try.underlying9 (Kd.C_below HR0_2.out HB.out); have hcv14 := Kd.C_string (P := Try.prog) (A := A1_2) (c := c1_2) Try.underlying22 Try.underlying5 Try.underlying9 (Kd.C_below HR1_2.out HB.out)))
            go_ret
            exact ⟨by first | rfl | (simp [errW_none, errW_some] <;> rfl) | (simp [*, errW_none, errW_some] <;> rfl), by repeat (first | (with_reducible first | exact HB.out | apply below_alloc | apply pw_below_drewN | apply below_drew1 | refine below_set ?_ GE148.out | refine below_set ?_ GE149.out) | exact HB.out)⟩
          · rw [if_neg c7] at H
            have c7b0 : (a0_4 == a1_4) = false := by simpa using c7
            (try (have c7b1 : decide (a0_4 = a1_4) = false := by simpa using c7))
            (try (have c7b2 : (a0_4 == a1_4) = false := by simpa using c7))
            (try (have c7b3 : ¬ (a0_4 = a1_4) := by simpa using c7))
            clear c7
            obtain rfl := Option.some.inj H
            go_enter Try.func15, Try.ntmps15
            go_wp2_with (first | ((with_reducible refine gate_dst (N := 2) rfl ?_); refine box_event ?hg (N := 2) ?hd (cs := #[.int .u64 a0_0, .string a0_1, .slice A0_2 l0_2.length c0_2, .int .u64 a0_3, .bool a0_4, .bool a0_5]) (t := 34) ?hr ?_; (case hd => rfl); (case hg => rfl); (case hr => first | (go_simp; done) | (go_simp; rfl)); intro gb148 hg w15 hbox hb; have n0_ := Aside0.mk (below_step (by repeat (first | (with_reducible first | exact HB.out | apply below_alloc | apply pw_below_drewN | apply below_drew1) | exact HB.out)) hb); have n1_ := Aside0.mk (hbox); have n2_ := Aside0.mk ((by rw [hg]; exact (below_size (by repeat (first | (with_reducible first | exact HB.out | apply below_alloc | apply pw_below_drewN | apply below_drew1) | exact HB.out))) : w.heap.size ≤ gb148)); have n3_ := Aside0.mk ((by rw [hg]; exact (below_size (by repeat (first | (with_reducible first | exact HB.out | apply below_alloc | apply pw_below_drewN | apply below_drew1) | exact HB.out))) : w.heap.size ≤ gb148)); clear HB; have HB := n0_; have BK148 := n1_; have GW148 := n2_; have GE148 := n3_; clear n0_ n1_ n2_ n3_; clear hb hbox hg) | ((with_reducible refine gate_dst (N := 3) rfl ?_); refine box_event ?hg (N := 3) ?hd (cs := #[.int .u64 a1_0, .string a1_1, .slice A1_2 l1_2.length c1_2, .int .u64 a1_3, .bool a1_4, .bool a1_5]) (t := 34) ?hr ?_; (case hd => rfl); (case hg => rfl); (case hr => first | (go_simp; done) | (go_simp; rfl)); intro gb149 hg w16 hbox hb; have n0_ := Aside0.mk (blk_below (g := gb148) (o := .cells #[.int .u64 a0_0, .string a0_1, .slice A0_2 l0_2.length c0_2, .int .u64 a0_3, .bool a0_4, .bool a0_5] 34 (0, 0)) (by (with_reducible repeat (first | refine blk_drewN ?_ _ | refine blk_drew ?_ | refine blk_alloc ?_ _)); exact BK148.out) hb); have n1_ := Aside0.mk (below_step (by repeat (first | (with_reducible first | exact HB.out | apply below_alloc | apply pw_below_drewN | apply below_drew1 | refine below_set ?_ GE148.out) | exact HB.out)) hb); have n2_ := Aside0.mk (hbox); have n3_ := Aside0.mk ((by rw [hg]; exact (below_size (by repeat (first | (with_reducible first | exact HB.out | apply below_alloc | apply pw_below_drewN | apply below_drew1 | refine below_set ?_ GE148.out) | exact HB.out))) : w.heap.size ≤ gb149)); have n4_ := Aside0.mk ((by rw [hg]; exact (below_size (by repeat (first | (with_reducible first | exact HB.out | apply below_alloc | apply pw_below_drewN | apply below_drew1 | refine below_set ?_ GE148.out) | exact HB.out))) : w.heap.size ≤ gb149)); have n5_ := Aside0.mk ((by rw [hg]; exact Nat.ne_of_lt (blk_lt (g := gb148) (o := .cells #[.int .u64 a0_0, .string a0_1, .slice A0_2 l0_2.length c0_2, .int .u64 a0_3, .bool a0_4, .bool a0_5] 34 (0, 0)) (by (with_reducible repeat (first | refine blk_drewN ?_ _ | refine blk_drew ?_ | refine blk_alloc ?_ _)); exact BK148.out)) : gb148 ≠ gb149)); have n6_ := Aside0.mk ((by rw [hg]; exact Nat.ne_of_gt (blk_lt (g := gb148) (o := .cells #[.int .u64 a0_0, .string a0_1, .slice A0_2 l0_2.length c0_2, .int .u64 a0_3, .bool a0_4, .bool a0_5] 34 (0, 0)) (by (with_reducible repeat (first | refine blk_drewN ?_ _ | refine blk_drew ?_ | refine blk_alloc ?_ _)); exact BK148.out)) : gb149 ≠ gb148)); clear BK148; clear HB; have BK148 := n0_; have HB := n1_; have BK149 := n2_; have GW149 := n3_; have GE149 := n4_; have NB148_149 := n5_; have NB149_148 := n6_; clear n0_ n1_ n2_ n3_ n4_ n5_ n6_; clear hb hbox hg; have hnb17 := NB148_149.out; have hnc17 := NB149_148.out; have hcz18_0 : w16.cell? ⟨gb148, 0, none⟩ = some (.int .u64 a0_0) := (blk_cell BK148.out 0).trans rfl; have hcz18_1 : w16.cell? ⟨gb148, 1, none⟩ = some (.string a0_1) := (blk_cell BK148.out 1).trans rfl; have hcz18_2 : w16.cell? ⟨gb148, 2, none⟩ = some (.slice A0_2 l0_2.length c0_2) := (blk_cell BK148.out 2).trans rfl; have hcz18_3 : w16.cell? ⟨gb148, 3, none⟩ = some (.int .u64 a0_3) := (blk_cell BK148.out 3).trans rfl; have hcz18_4 : w16.cell? ⟨gb148, 4, none⟩ = some (.bool a0_4) := (blk_cell BK148.out 4).trans rfl; have hcz18_5 : w16.cell? ⟨gb148, 5, none⟩ = some (.bool a0_5) := (blk_cell BK148.out 5).trans rfl; have hfz18_0 := blk_frozen BK148.out 0; have hfz18_1 := blk_frozen BK148.out 1; have hfz18_2 := blk_frozen BK148.out 2; have hfz18_3 := blk_frozen BK148.out 3; have hfz18_4 := blk_frozen BK148.out 4; have hfz18_5 := blk_frozen BK148.out 5; have hcz19_0 : w16.cell? ⟨gb149, 0, none⟩ = some (.int .u64 a1_0) := (blk_cell BK149.out 0).trans rfl; have hcz19_1 : w16.cell? ⟨gb149, 1, none⟩ = some (.string a1_1) := (blk_cell BK149.out 1).trans rfl; have hcz19_2 : w16.cell? ⟨gb149, 2, none⟩ = some (.slice A1_2 l1_2.length c1_2) := (blk_cell BK149.out 2).trans rfl; have hcz19_3 : w16.cell? ⟨gb149, 3, none⟩ = some (.int .u64 a1_3) := (blk_cell BK149.out 3).trans rfl; have hcz19_4 : w16.cell? ⟨gb149, 4, none⟩ = some (.bool a1_4) := (blk_cell BK149.out 4).trans rfl; have hcz19_5 : w16.cell? ⟨gb149, 5, none⟩ = some (.bool a1_5) := (blk_cell BK149.out 5).trans rfl; have hfz19_0 := blk_frozen BK149.out 0; have hfz19_1 := blk_frozen BK149.out 1; have hfz19_2 := blk_frozen BK149.out 2; have hfz19_3 := blk_frozen BK149.out 3; have hfz19_4 := blk_frozen BK149.out 4; have hfz19_5 := blk_frozen BK149.out 5; have hcv20 := Kd.C_string (P := Try.prog) (A := A0_2) (c := c0_2) Try.underlying22 Try.underlying5 Try.underlying9 (Kd.C_below HR0_2.out HB.out); have hcv21 := Kd.C_string (P := Try.prog) (A := A1_2) (c := c1_2) Try.underlying22 Try.underlying5 Try.underlying9 (Kd.C_below HR1_2.out HB.out)))
            go_ret
            exact ⟨by first | rfl | (simp [errW_none, errW_some] <;> rfl) | (simp [*, errW_none, errW_some] <;> rfl), by repeat (first | (with_reducible first | exact HB.out | apply below_alloc | apply pw_below_drewN | apply below_drew1 | refine below_set ?_ GE148.out | refine below_set ?_ GE149.out) | exact HB.out)⟩
        · rw [if_neg c6] at H
          have c6b0 : (a0_3 == a1_3) = false := beq_eq_false_iff_ne.mpr c6
          have c6b1 : (a0_3 != a1_3) = true := bne_iff_ne.mpr c6
          obtain rfl := Option.some.inj H
          go_enter Try.func15, Try.ntmps15
          go_wp2_with (first | ((with_reducible refine gate_dst (N := 2) rfl ?_); refine box_event ?hg (N := 2) ?hd (cs := #[.int .u64 a0_0, .string a0_1, .slice A0_2 l0_2.length c0_2, .int .u64 a0_3, .bool a0_4, .bool a0_5]) (t := 34) ?hr ?_; (case hd => rfl); (case hg => rfl); (case hr => first | (go_simp; done) | (go_simp; rfl)); intro gb148 hg w22 hbox hb; have n0_ := Aside0.mk (below_step (by repeat (first | (with_reducible first | exact HB.out | apply below_alloc | apply pw_below_drewN | apply below_drew1) | exact HB.out)) hb); have n1_ := Aside0.mk (hbox); have n2_ := Aside0.mk ((by rw [hg]; exact (below_size (by repeat (first | (with_reducible first | exact HB.out | apply below_alloc | apply pw_below_drewN | apply below_drew1) | exact HB.out))) : w.heap.size ≤ gb148)); have n3_ := Aside0.mk ((by rw [hg]; exact (below_size (by repeat (first | (with_reducible first | exact HB.out | apply below_alloc | apply pw_below_drewN | apply below_drew1) | exact HB.out))) : w.heap.size ≤ gb148)); clear HB; have HB := n0_; have BK148 := n1_; have GW148 := n2_; have GE148 := n3_; clear n0_ n1_ n2_ n3_; clear hb hbox hg) | ((with_reducible refine gate_dst (N := 3) rfl ?_); refine box_event ?hg (N := 3) ?hd (cs := #[.int .u64 a1_0, .string a1_1, .slice A1_2 l1_2.length c1_2, .int .u64 a1_3, .bool a1_4, .bool a1_5]) (t := 34) ?hr ?_; (case hd => rfl); (case hg => rfl); (case hr => first | (go_simp; done) | (go_simp; rfl)); intro gb149 hg w23 hbox hb; have n0_ := Aside0.mk (blk_below (g := gb148) (o := .cells #[.int .u64 a0_0, .string a0_1, .slice A0_2 l0_2.length c0_2, .int .u64 a0_3, .bool a0_4, .bool a0_5] 34 (0, 0)) (by (with_reducible repeat (first | refine blk_drewN ?_ _ | refine blk_drew ?_ | refine blk_alloc ?_ _)); exact BK148.out) hb); have n1_ := Aside0.mk (below_step (by repeat (first | (with_reducible first | exact HB.out | apply below_alloc | apply pw_below_drewN | apply below_drew1 | refine below_set ?_ GE148.out) | exact HB.out)) hb); have n2_ := Aside0.mk (hbox); have n3_ := Aside0.mk ((by rw [hg]; exact (below_size (by repeat (first | (with_reducible first | exact HB.out | apply below_alloc | apply pw_below_drewN | apply below_drew1 | refine below_set ?_ GE148.out) | exact HB.out))) : w.heap.size ≤ gb149)); have n4_ := Aside0.mk ((by rw [hg]; exact (below_size (by repeat (first | (with_reducible first | exact HB.out | apply below_alloc | apply pw_below_drewN | apply below_drew1 | refine below_set ?_ GE148.out) | exact HB.out))) : w.heap.size ≤ gb149)); have n5_ := Aside0.mk ((by rw [hg]; exact Nat.ne_of_lt (blk_lt (g := gb148) (o := .cells #[.int .u64 a0_0, .string a0_1, .slice A0_2 l0_2.length c0_2, .int .u64 a0_3, .bool a0_4, .bool a0_5] 34 (0, 0)) (by (with_reducible repeat (first | refine blk_drewN ?_ _ | refine blk_drew ?_ | refine blk_alloc ?_ _)); exact BK148.out)) : gb148 ≠ gb149)); have n6_ := Aside0.mk ((by rw [hg]; exact Nat.ne_of_gt (blk_lt (g := gb148) (o := .cells #[.int .u64 a0_0, .string a0_1, .slice A0_2 l0_2.length c0_2, .int .u64 a0_3, .bool a0_4, .bool a0_5] 34 (0, 0)) (by (with_reducible repeat (first | refine blk_drewN ?_ _ | refine blk_drew ?_ | refine blk_alloc ?_ _)); exact BK148.out)) : gb149 ≠ gb148)); clear BK148; clear HB; have BK148 := n0_; have HB := n1_; have BK149 := n2_; have GW149 := n3_; have GE149 := n4_; have NB148_149 := n5_; have NB149_148 := n6_; clear n0_ n1_ n2_ n3_ n4_ n5_ n6_; clear hb hbox hg; have hnb24 := NB148_149.out; have hnc24 := NB149_148.out; have hcz25_0 : w23.cell? ⟨gb148, 0, none⟩ = some (.int .u64 a0_0) := (blk_cell BK148.out 0).trans rfl; have hcz25_1 : w23.cell? ⟨gb148, 1, none⟩ = some (.string a0_1) := (blk_cell BK148.out 1).trans rfl; have hcz25_2 : w23.cell? ⟨gb148, 2, none⟩ = some (.slice A0_2 l0_2.length c0_2) := (blk_cell BK148.out 2).trans rfl; have hcz25_3 : w23.cell? ⟨gb148, 3, none⟩ = some (.int .u64 a0_3) := (blk_cell BK148.out 3).trans rfl; have hcz25_4 : w23.cell? ⟨gb148, 4, none⟩ = some (.bool a0_4) := (blk_cell BK148.out 4).trans rfl; have hcz25_5 : w23.cell? ⟨gb148, 5, none⟩ = some (.bool a0_5) := (blk_cell BK148.out 5).trans rfl; have hfz25_0 := blk_frozen BK148.out 0; have hfz25_1 := blk_frozen BK148.out 1; have hfz25_2 := blk_frozen BK148.out 2; have hfz25_3 := blk_frozen BK148.out 3; have hfz25_4 := blk_frozen BK148.out 4; have hfz25_5 := blk_frozen BK148.out 5; have hcz26_0 : w23.cell? ⟨gb149, 0, none⟩ = some (.int .u64 a1_0) := (blk_cell BK149.out 0).trans rfl; have hcz26_1 : w23.cell? ⟨gb149, 1, none⟩ = some (.string a1_1) := (blk_cell BK149.out 1).trans rfl; have hcz26_2 : w23.cell? ⟨gb149, 2, none⟩ = some (.slice A1_2 l1_2.length c1_2) := (blk_cell BK149.out 2).trans rfl; have hcz26_3 : w23.cell? ⟨gb149, 3, none⟩ = some (.int .u64 a1_3) := (blk_cell BK149.out 3).trans rfl; have hcz26_4 : w23.cell? ⟨gb149, 4, none⟩ = some (.bool a1_4) := (blk_cell BK149.out 4).trans rfl; have hcz26_5 : w23.cell? ⟨gb149, 5, none⟩ = some (.bool a1_5) := (blk_cell BK149.out 5).trans rfl; have hfz26_0 := blk_frozen BK149.out 0; have hfz26_1 := blk_frozen BK149.out 1; have hfz26_2 := blk_frozen BK149.out 2; have hfz26_3 := blk_frozen BK149.out 3; have hfz26_4 := blk_frozen BK149.out 4; have hfz26_5 := blk_frozen BK149.out 5; have hcv27 := Kd.C_string (P := Try.prog) (A := A0_2) (c := c0_2) Try.underlying22 Try.underlying5 Try.underlying9 (Kd.C_below HR0_2.out HB.out); have hcv28 := Kd.C_string (P := Try.prog) (A := A1_2) (c := c1_2) Try.underlying22 Try.underlying5 Try.underlying9 (Kd.C_below HR1_2.out HB.out)))
          go_ret
          exact ⟨by first | rfl | (simp [errW_none, errW_some] <;> rfl) | (simp [*, errW_none, errW_some] <;> rfl), by repeat (first | (with_reducible first | exact HB.out | apply below_alloc | apply pw_below_drewN | apply below_drew1 | refine below_set ?_ GE148.out | refine below_set ?_ GE149.out) | exact HB.out)⟩
      · rw [if_neg c5] at H
        have c5b0 : ((strOfNums l0_2).toList == (strOfNums l1_2).toList) = false := beq_eq_false_iff_ne.mpr c5
        have c5b1 : ((strOfNums l0_2).toList != (strOfNums l1_2).toList) = true := bne_iff_ne.mpr c5
        obtain rfl := Option.some.inj H
        go_enter Try.func15, Try.ntmps15
        go_wp2_with (first | ((with_reducible refine gate_dst (N := 2) rfl ?_); refine box_event ?hg (N := 2) ?hd (cs := #[.int .u64 a0_0, .string a0_1, .slice A0_2 l0_2.length c0_2, .int .u64 a0_3, .bool a0_4, .bool a0_5]) (t := 34) ?hr ?_; (case hd => rfl); (case hg => rfl); (case hr => first | (go_simp; done) | (go_simp; rfl)); intro gb148 hg w29 hbox hb; have n0_ := Aside0.mk (below_step (by repeat (first | (with_reducible first | exact HB.out | apply below_alloc | apply pw_below_drewN | apply below_drew1) | exact HB.out)) hb); have n1_ := Aside0.mk (hbox); have n2_ := Aside0.mk ((by rw [hg]; exact (below_size (by repeat (first | (with_reducible first | exact HB.out | apply below_alloc | apply pw_below_drewN | apply below_drew1) | exact HB.out))) : w.heap.size ≤ gb148)); have n3_ := Aside0.mk ((by rw [hg]; exact (below_size (by repeat (first | (with_reducible first | exact HB.out | apply below_alloc | apply pw_below_drewN | apply below_drew1) | exact HB.out))) : w.heap.size ≤ gb148)); clear HB; have HB := n0_; have BK148 := n1_; have GW148 := n2_; have GE148 := n3_; clear n0_ n1_ n2_ n3_; clear hb hbox hg) | ((with_reducible refine gate_dst (N := 3) rfl ?_); refine box_event ?hg (N := 3) ?hd (cs := #[.int .u64 a1_0, .string a1_1, .slice A1_2 l1_2.length c1_2, .int .u64 a1_3, .bool a1_4, .bool a1_5]) (t := 34) ?hr ?_; (case hd => rfl); (case hg => rfl); (case hr => first | (go_simp; done) | (go_simp; rfl)); intro gb149 hg w30 hbox hb; have n0_ := Aside0.mk (blk_below (g := gb148) (o := .cells #[.int .u64 a0_0, .string a0_1, .slice A0_2 l0_2.length c0_2, .int .u64 a0_3, .bool a0_4, .bool a0_5] 34 (0, 0)) (by (with_reducible repeat (first | refine blk_drewN ?_ _ | refine blk_drew ?_ | refine blk_alloc ?_ _)); exact BK148.out) hb); have n1_ := Aside0.mk (below_step (by repeat (first | (with_reducible first | exact HB.out | apply below_alloc | apply pw_below_drewN | apply below_drew1 | refine below_set ?_ GE148.out) | exact HB.out)) hb); have n2_ := Aside0.mk (hbox); have n3_ := Aside0.mk ((by rw [hg]; exact (below_size (by repeat (first | (with_reducible first | exact HB.out | apply below_alloc | apply pw_below_drewN | apply below_drew1 | refine below_set ?_ GE148.out) | exact HB.out))) : w.heap.size ≤ gb149)); have n4_ := Aside0.mk ((by rw [hg]; exact (below_size (by repeat (first | (with_reducible first | exact HB.out | apply below_alloc | apply pw_below_drewN | apply below_drew1 | refine below_set ?_ GE148.out) | exact HB.out))) : w.heap.size ≤ gb149)); have n5_ := Aside0.mk ((by rw [hg]; exact Nat.ne_of_lt (blk_lt (g := gb148) (o := .cells #[.int .u64 a0_0, .string a0_1, .slice A0_2 l0_2.length c0_2, .int .u64 a0_3, .bool a0_4, .bool a0_5] 34 (0, 0)) (by (with_reducible repeat (first | refine blk_drewN ?_ _ | refine blk_drew ?_ | refine blk_alloc ?_ _)); exact BK148.out)) : gb148 ≠ gb149)); have n6_ := Aside0.mk ((by rw [hg]; exact Nat.ne_of_gt (blk_lt (g := gb148) (o := .cells #[.int .u64 a0_0, .string a0_1, .slice A0_2 l0_2.length c0_2, .int .u64 a0_3, .bool a0_4, .bool a0_5] 34 (0, 0)) (by (with_reducible repeat (first | refine blk_drewN ?_ _ | refine blk_drew ?_ | refine blk_alloc ?_ _)); exact BK148.out)) : gb149 ≠ gb148)); clear BK148; clear HB; have BK148 := n0_; have HB := n1_; have BK149 := n2_; have GW149 := n3_; have GE149 := n4_; have NB148_149 := n5_; have NB149_148 := n6_; clear n0_ n1_ n2_ n3_ n4_ n5_ n6_; clear hb hbox hg; have hnb31 := NB148_149.out; have hnc31 := NB149_148.out; have hcz32_0 : w30.cell? ⟨gb148, 0, none⟩ = some (.int .u64 a0_0) := (blk_cell BK148.out 0).trans rfl; have hcz32_1 : w30.cell? ⟨gb148, 1, none⟩ = some (.string a0_1) := (blk_cell BK148.out 1).trans rfl; have hcz32_2 : w30.cell? ⟨gb148, 2, none⟩ = some (.slice A0_2 l0_2.length c0_2) := (blk_cell BK148.out 2).trans rfl; have hcz32_3 : w30.cell? ⟨gb148, 3, none⟩ = some (.int .u64 a0_3) := (blk_cell BK148.out 3).trans rfl; have hcz32_4 : w30.cell? ⟨gb148, 4, none⟩ = some (.bool a0_4) := (blk_cell BK148.out 4).trans rfl; have hcz32_5 : w30.cell? ⟨gb148, 5, none⟩ = some (.bool a0_5) := (blk_cell BK148.out 5).trans rfl; have hfz32_0 := blk_frozen BK148.out 0; have hfz32_1 := blk_frozen BK148.out 1; have hfz32_2 := blk_frozen BK148.out 2; have hfz32_3 := blk_frozen BK148.out 3; have hfz32_4 := blk_frozen BK148.out 4; have hfz32_5 := blk_frozen BK148.out 5; have hcz33_0 : w30.cell? ⟨gb149, 0, none⟩ = some (.int .u64 a1_0) := (blk_cell BK149.out 0).trans rfl; have hcz33_1 : w30.cell? ⟨gb149, 1, none⟩ = some (.string a1_1) := (blk_cell BK149.out 1).trans rfl; have hcz33_2 : w30.cell? ⟨gb149, 2, none⟩ = some (.slice A1_2 l1_2.length c1_2) := (blk_cell BK149.out 2).trans rfl; have hcz33_3 : w30.cell? ⟨gb149, 3, none⟩ = some (.int .u64 a1_3) := (blk_cell BK149.out 3).trans rfl; have hcz33_4 : w30.cell? ⟨gb149, 4, none⟩ = some (.bool a1_4) := (blk_cell BK149.out 4).trans rfl; have hcz33_5 : w30.cell? ⟨gb149, 5, none⟩ = some (.bool a1_5) := (blk_cell BK149.out 5).trans rfl; have hfz33_0 := blk_frozen BK149.out 0; have hfz33_1 := blk_frozen BK149.out 1; have hfz33_2 := blk_frozen BK149.out 2; have hfz33_3 := blk_frozen BK149.out 3; have hfz33_4 := blk_frozen BK149.out 4; have hfz33_5 := blk_frozen BK149.out 5; have hcv34 := Kd.C_string (P := Try.prog) (A := A0_2) (c := c0_2) Try.underlying22 Try.underlying5 Try.underlying9 (Kd.C_below HR0_2.out HB.out); have hcv35 := Kd.C_string (P := Try.prog) (A := A1_2) (c := c1_2) Try.underlying22 Try.underlying5 Try.underlying9 (Kd.C_below HR1_2.out HB.out)))
        go_ret
        exact ⟨by first | rfl | (simp [errW_none, errW_some] <;> rfl) | (simp [*, errW_none, errW_some] <;> rfl), by repeat (first | (with_reducible first | exact HB.out | apply below_alloc | apply pw_below_drewN | apply below_drew1 | refine below_set ?_ GE148.out | refine below_set ?_ GE149.out) | exact HB.out)⟩
    · rw [if_neg c4] at H
      have c4b0 : (a0_1.toList == a1_1.toList) = false := beq_eq_false_iff_ne.mpr c4
      have c4b1 : (a0_1.toList != a1_1.toList) = true := bne_iff_ne.mpr c4
      obtain rfl := Option.some.inj H
      go_enter Try.func15, Try.ntmps15
      go_wp2_with (first | ((with_reducible refine gate_dst (N := 2) rfl ?_); refine box_event ?hg (N := 2) ?hd (cs := #[.int .u64 a0_0, .string a0_1, .slice A0_2 l0_2.length c0_2, .int .u64 a0_3, .bool a0_4, .bool a0_5]) (t := 34) ?hr ?_; (case hd => rfl); (case hg => rfl); (case hr => first | (go_simp; done) | (go_simp; rfl)); intro gb148 hg w36 hbox hb; have n0_ := Aside0.mk (below_step (by repeat (first | (with_reducible first | exact HB.out | apply below_alloc | apply pw_below_drewN | apply below_drew1) | exact HB.out)) hb); have n1_ := Aside0.mk (hbox); have n2_ := Aside0.mk ((by rw [hg]; exact (below_size (by repeat (first | (with_reducible first | exact HB.out | apply below_alloc | apply pw_below_drewN | apply below_drew1) | exact HB.out))) : w.heap.size ≤ gb148)); have n3_ := Aside0.mk ((by rw [hg]; exact (below_size (by repeat (first | (with_reducible first | exact HB.out | apply below_alloc | apply pw_below_drewN | apply below_drew1) | exact HB.out))) : w.heap.size ≤ gb148)); clear HB; have HB := n0_; have BK148 := n1_; have GW148 := n2_; have GE148 := n3_; clear n0_ n1_ n2_ n3_; clear hb hbox hg) | ((with_reducible refine gate_dst (N := 3) rfl ?_); refine box_event ?hg (N := 3) ?hd (cs := #[.int .u64 a1_0, .string a1_1, .slice A1_2 l1_2.length c1_2, .int .u64 a1_3, .bool a1_4, .bool a1_5]) (t := 34) ?hr ?_; (case hd => rfl); (case hg => rfl); (case hr => first | (go_simp; done) | (go_simp; rfl)); intro gb149 hg w37 hbox hb; have n0_ := Aside0.mk (blk_below (g := gb148) (o := .cells #[.int .u64 a0_0, .string a0_1, .slice A0_2 l0_2.length c0_2, .int .u64 a0_3, .bool a0_4, .bool a0_5] 34 (0, 0)) (by (with_reducible repeat (first | refine blk_drewN ?_ _ | refine blk_drew ?_ | refine blk_alloc ?_ _)); exact BK148.out) hb); have n1_ := Aside0.mk (below_step (by repeat (first | (with_reducible first | exact HB.out | apply below_alloc | apply pw_below_drewN | apply below_drew1 | refine below_set ?_ GE148.out) | exact HB.out)) hb); have n2_ := Aside0.mk (hbox); have n3_ := Aside0.mk ((by rw [hg]; exact (below_size (by repeat (first | (with_reducible first | exact HB.out | apply below_alloc | apply pw_below_drewN | apply below_drew1 | refine below_set ?_ GE148.out) | exact HB.out))) : w.heap.size ≤ gb149)); have n4_ := Aside0.mk ((by rw [hg]; exact (below_size (by repeat (first | (with_reducible first | exact HB.out | apply below_alloc | apply pw_below_drewN | apply below_drew1 | refine below_set ?_ GE148.out) | exact HB.out))) : w.heap.size ≤ gb149)); have n5_ := Aside0.mk ((by rw [hg]; exact Nat.ne_of_lt (blk_lt (g := gb148) (o := .cells #[.int .u64 a0_0, .string a0_1, .slice A0_2 l0_2.length c0_2, .int .u64 a0_3, .bool a0_4, .bool a0_5] 34 (0, 0)) (by (with_reducible repeat (first | refine blk_drewN ?_ _ | refine blk_drew ?_ | refine blk_alloc ?_ _)); exact BK148.out)) : gb148 ≠ gb149)); have n6_ := Aside0.mk ((by rw [hg]; exact Nat.ne_of_gt (blk_lt (g := gb148) (o := .cells #[.int .u64 a0_0, .string a0_1, .slice A0_2 l0_2.length c0_2, .int .u64 a0_3, .bool a0_4, .bool a0_5] 34 (0, 0)) (by (with_reducible repeat (first | refine blk_drewN ?_ _ | refine blk_drew ?_ | refine blk_alloc ?_ _)); exact BK148.out)) : gb149 ≠ gb148)); clear BK148; clear HB; have BK148 := n0_; have HB := n1_; have BK149 := n2_; have GW149 := n3_; have GE149 := n4_; have NB148_149 := n5_; have NB149_148 := n6_; clear n0_ n1_ n2_ n3_ n4_ n5_ n6_; clear hb hbox hg; have hnb38 := NB148_149.out; have hnc38 := NB149_148.out; have hcz39_0 : w37.cell? ⟨gb148, 0, none⟩ = some (.int .u64 a0_0) := (blk_cell BK148.out 0).trans rfl; have hcz39_1 : w37.cell? ⟨gb148, 1, none⟩ = some (.string a0_1) := (blk_cell BK148.out 1).trans rfl; have hcz39_2 : w37.cell? ⟨gb148, 2, none⟩ = some (.slice A0_2 l0_2.length c0_2) := (blk_cell BK148.out 2).trans rfl; have hcz39_3 : w37.cell? ⟨gb148, 3, none⟩ = some (.int .u64 a0_3) := (blk_cell BK148.out 3).trans rfl; have hcz39_4 : w37.cell? ⟨gb148, 4, none⟩ = some (.bool a0_4) := (blk_cell BK148.out 4).trans rfl; have hcz39_5 : w37.cell? ⟨gb148, 5, none⟩ = some (.bool a0_5) := (blk_cell BK148.out 5).trans rfl; have hfz39_0 := blk_frozen BK148.out 0; have hfz39_1 := blk_frozen BK148.out 1; have hfz39_2 := blk_frozen BK148.out 2; have hfz39_3 := blk_frozen BK148.out 3; have hfz39_4 := blk_frozen BK148.out 4; have hfz39_5 := blk_frozen BK148.out 5; have hcz40_0 : w37.cell? ⟨gb149, 0, none⟩ = some (.int .u64 a1_0) := (blk_cell BK149.out 0).trans rfl; have hcz40_1 : w37.cell? ⟨gb149, 1, none⟩ = some (.string a1_1) := (blk_cell BK149.out 1).trans rfl; have hcz40_2 : w37.cell? ⟨gb149, 2, none⟩ = some (.slice A1_2 l1_2.length c1_2) := (blk_cell BK149.out 2).trans rfl; have hcz40_3 : w37.cell? ⟨gb149, 3, none⟩ = some (.int .u64 a1_3) := (blk_cell BK149.out 3).trans rfl; have hcz40_4 : w37.cell? ⟨gb149, 4, none⟩ = some (.bool a1_4) := (blk_cell BK149.out 4).trans rfl; have hcz40_5 : w37.cell? ⟨gb149, 5, none⟩ = some (.bool a1_5) := (blk_cell BK149.out 5).trans rfl; have hfz40_0 := blk_frozen BK149.out 0; have hfz40_1 := blk_frozen BK149.out 1; have hfz40_2 := blk_frozen BK149.out 2; have hfz40_3 := blk_frozen BK149.out 3; have hfz40_4 := blk_frozen BK149.out 4; have hfz40_5 := blk_frozen BK149.out 5))
      go_ret
      exact ⟨by first | rfl | (simp [errW_none, errW_some] <;> rfl) | (simp [*, errW_none, errW_some] <;> rfl), by repeat (first | (with_reducible first | exact HB.out | apply below_alloc | apply pw_below_drewN | apply below_drew1 | refine below_set ?_ GE148.out | refine below_set ?_ GE149.out) | exact HB.out)⟩
  · rw [if_neg c3] at H
    have c3b0 : (a0_0 == a1_0) = false := beq_eq_false_iff_ne.mpr c3
    have c3b1 : (a0_0 != a1_0) = true := bne_iff_ne.mpr c3
    obtain rfl := Option.some.inj H
    go_enter Try.func15, Try.ntmps15
    go_wp2_with (first | ((with_reducible refine gate_dst (N := 2) rfl ?_); refine box_event ?hg (N := 2) ?hd (cs := #[.int .u64 a0_0, .string a0_1, .slice A0_2 l0_2.length c0_2, .int .u64 a0_3, .bool a0_4, .bool a0_5]) (t := 34) ?hr ?_; (case hd => rfl); (case hg => rfl); (case hr => first | (go_simp; done) | (go_simp; rfl)); intro gb148 hg w41 hbox hb; have n0_ := Aside0.mk (below_step (by repeat (first | (with_reducible first | exact HB.out | apply below_alloc | apply pw_below_drewN | apply below_drew1) | exact HB.out)) hb); have n1_ := Aside0.mk (hbox); have n2_ := Aside0.mk ((by rw [hg]; exact (below_size (by repeat (first | (with_reducible first | exact HB.out | apply below_alloc | apply pw_below_drewN | apply below_drew1) | exact HB.out))) : w.heap.size ≤ gb148)); have n3_ := Aside0.mk ((by rw [hg]; exact (below_size (by repeat (first | (with_reducible first | exact HB.out | apply below_alloc | apply pw_below_drewN | apply below_drew1) | exact HB.out))) : w.heap.size ≤ gb148)); clear HB; have HB := n0_; have BK148 := n1_; have GW148 := n2_; have GE148 := n3_; clear n0_ n1_ n2_ n3_; clear hb hbox hg) | ((with_reducible refine gate_dst (N := 3) rfl ?_); refine box_event ?hg (N := 3) ?hd (cs := #[.int .u64 a1_0, .string a1_1, .slice A1_2 l1_2.length c1_2, .int .u64 a1_3, .bool a1_4, .bool a1_5]) (t := 34) ?hr ?_; (case hd => rfl); (case hg => rfl); (case hr => first | (go_simp; done) | (go_simp; rfl)); intro gb149 hg w42 hbox hb; have n0_ := Aside0.mk (blk_below (g := gb148) (o := .cells #[.int .u64 a0_0, .string a0_1, .slice A0_2 l0_2.length c0_2, .int .u64 a0_3, .bool a0_4, .bool a0_5] 34 (0, 0)) (by (with_reducible repeat (first | refine blk_drewN ?_ _ | refine blk_drew ?_ | refine blk_alloc ?_ _)); exact BK148.out) hb); have n1_ := Aside0.mk (below_step (by repeat (first | (with_reducible first | exact HB.out | apply below_alloc | apply pw_below_drewN | apply below_drew1 | refine below_set ?_ GE148.out) | exact HB.out)) hb); have n2_ := Aside0.mk (hbox); have n3_ := Aside0.mk ((by rw [hg]; exact (below_size (by repeat (first | (with_reducible first | exact HB.out | apply below_alloc | apply pw_below_drewN | apply below_drew1 | refine below_set ?_ GE148.out) | exact HB.out))) : w.heap.size ≤ gb149)); have n4_ := Aside0.mk ((by rw [hg]; exact (below_size (by repeat (first | (with_reducible first | exact HB.out | apply below_alloc | apply pw_below_drewN | apply below_drew1 | refine below_set ?_ GE148.out) | exact HB.out))) : w.heap.size ≤ gb149)); have n5_ := Aside0.mk ((by rw [hg]; exact Nat.ne_of_lt (blk_lt (g := gb148) (o := .cells #[.int .u64 a0_0, .string a0_1, .slice A0_2 l0_2.length c0_2, .int .u64 a0_3, .bool a0_4, .bool a0_5] 34 (0, 0)) (by (with_reducible repeat (first | refine blk_drewN ?_ _ | refine blk_drew ?_ | refine blk_alloc ?_ _)); exact BK148.out)) : gb148 ≠ gb149)); have n6_ := Aside0.mk ((by rw [hg]; exact Nat.ne_of_gt (blk_lt (g := gb148) (o := .cells #[.int .u64 a0_0, .string a0_1, .slice A0_2 l0_2.length c0_2, .int .u64 a0_3, .bool a0_4, .bool a0_5] 34 (0, 0)) (by (with_reducible repeat (first | refine blk_drewN ?_ _ | refine blk_drew ?_ | refine blk_alloc ?_ _)); exact BK148.out)) : gb149 ≠ gb148)); clear BK148; clear HB; have BK148 := n0_; have HB := n1_; have BK149 := n2_; have GW149 := n3_; have GE149 := n4_; have NB148_149 := n5_; have NB149_148 := n6_; clear n0_ n1_ n2_ n3_ n4_ n5_ n6_; clear hb hbox hg; have hnb43 := NB148_149.out; have hnc43 := NB149_148.out; have hcz44_0 : w42.cell? ⟨gb148, 0, none⟩ = some (.int .u64 a0_0) := (blk_cell BK148.out 0).trans rfl; have hcz44_1 : w42.cell? ⟨gb148, 1, none⟩ = some (.string a0_1) := (blk_cell BK148.out 1).trans rfl; have hcz44_2 : w42.cell? ⟨gb148, 2, none⟩ = some (.slice A0_2 l0_2.length c0_2) := (blk_cell BK148.out 2).trans rfl; have hcz44_3 : w42.cell? ⟨gb148, 3, none⟩ = some (.int .u64 a0_3) := (blk_cell BK148.out 3).trans rfl; have hcz44_4 : w42.cell? ⟨gb148, 4, none⟩ = some (.bool a0_4) := (blk_cell BK148.out 4).trans rfl; have hcz44_5 : w42.cell? ⟨gb148, 5, none⟩ = some (.bool a0_5) := (blk_cell BK148.out 5).trans rfl; have hfz44_0 := blk_frozen BK148.out 0; have hfz44_1 := blk_frozen BK148.out 1; have hfz44_2 := blk_frozen BK148.out 2; have hfz44_3 := blk_frozen BK148.out 3; have hfz44_4 := blk_frozen BK148.out 4; have hfz44_5 := blk_frozen BK148.out 5; have hcz45_0 : w42.cell? ⟨gb149, 0, none⟩ = some (.int .u64 a1_0) := (blk_cell BK149.out 0).trans rfl; have hcz45_1 : w42.cell? ⟨gb149, 1, none⟩ = some (.string a1_1) := (blk_cell BK149.out 1).trans rfl; have hcz45_2 : w42.cell? ⟨gb149, 2, none⟩ = some (.slice A1_2 l1_2.length c1_2) := (blk_cell BK149.out 2).trans rfl; have hcz45_3 : w42.cell? ⟨gb149, 3, none⟩ = some (.int .u64 a1_3) := (blk_cell BK149.out 3).trans rfl; have hcz45_4 : w42.cell? ⟨gb149, 4, none⟩ = some (.bool a1_4) := (blk_cell BK149.out 4).trans rfl; have hcz45_5 : w42.cell? ⟨gb149, 5, none⟩ = some (.bool a1_5) := (blk_cell BK149.out 5).trans rfl; have hfz45_0 := blk_frozen BK149.out 0; have hfz45_1 := blk_frozen BK149.out 1; have hfz45_2 := blk_frozen BK149.out 2; have hfz45_3 := blk_frozen BK149.out 3; have hfz45_4 := blk_frozen BK149.out 4; have hfz45_5 := blk_frozen BK149.out 5))
    go_ret
    exact ⟨by first | rfl | (simp [errW_none, errW_some] <;> rfl) | (simp [*, errW_none, errW_some] <;> rfl), by repeat (first | (with_reducible first | exact HB.out | apply below_alloc | apply pw_below_drewN | apply below_drew1 | refine below_set ?_ GE148.out | refine below_set ?_ GE149.out) | exact HB.out)⟩

-- NOT PRINTED: function 16 (sess_Book_Live)

/-- A state of type 45 at block g of W; what its slices lead to came in by w0. -/
def IsS45 (w0 W : World) (g : Nat) (f0 : Int) (f1 : Int) (f2 : Int) (f3 : List (S34)) : Prop := ∃ A3 c3, W.heap[g]? = some (.cells #[.int .i64 f0, .int .u64 f1, .int .u64 f2, .slice A3 f3.length c3] 45 (0, 0)) ∧ w0.heap.size ≤ g ∧ Kd.C k34 w0 A3 f3.length f3
theorem IsS45.grown {w0 W : World} {g : Nat} {f0 : Int} {f1 : Int} {f2 : Int} {f3 : List (S34)} {W1 : World} {row : Option Nat} (h : IsS45 w0 W g f0 f1 f2 f3) (hw : W.grownBy W1 row) (hne : some g ≠ row) : IsS45 w0 W1 g f0 f1 f2 f3 := by
  obtain ⟨A3, c3, hb, hg, hr3⟩ := h
  exact ⟨A3, c3, blk_grown hb hw hne, hg, hr3⟩
theorem IsS45.own_neN {w0 W : World} {g : Nat} {f0 : Int} {f1 : Int} {f2 : Int} {f3 : List (S34)} {α : Type} {d : Kd α} {e : Nat} {base : Nat} {ok : Nat → Prop} {v : Value} {xs : List α} (h : IsS45 w0 W g f0 f1 f2 f3) (ho : Kd.N d e W base ok v xs) (ht : e ≠ 45) : some g ≠ v.ownBlock := by
  obtain ⟨A3, c3, hb, hg, hr3⟩ := h
  exact Kd.N_ne ho hb ht
theorem IsS45.fresh {w0 W : World} {g : Nat} {f0 : Int} {f1 : Int} {f2 : Int} {f3 : List (S34)} (h : IsS45 w0 W g f0 f1 f2 f3) : ∀ k, W.heap.size ≤ k → k ≠ g := by
  obtain ⟨A3, c3, hb, hg, hr3⟩ := h
  exact Kd.freshB hb
theorem IsS45.kept {w0 W : World} {g : Nat} {f0 : Int} {f1 : Int} {f2 : Int} {f3 : List (S34)} {W1 : World} {S : Nat → Prop} (h : IsS45 w0 W g f0 f1 f2 f3) (hk : Kept W W1 S) (hne : ¬ S g) : IsS45 w0 W1 g f0 f1 f2 f3 := by
  obtain ⟨A3, c3, hb, hg, hr3⟩ := h
  exact ⟨A3, c3, blk_kept hb hk hne, hg, hr3⟩
theorem IsS45.below {w0 W : World} {g : Nat} {f0 : Int} {f1 : Int} {f2 : Int} {f3 : List (S34)} {W1 : World} (h : IsS45 w0 W g f0 f1 f2 f3) (hw : Below W.heap.size W W1) : IsS45 w0 W1 g f0 f1 f2 f3 := h.grown (grown_of_below hw none) (by simp)
theorem IsS45.alloc {w0 W : World} {g : Nat} {f0 : Int} {f1 : Int} {f2 : Int} {f3 : List (S34)} (h : IsS45 w0 W g f0 f1 f2 f3) (o : Obj) : IsS45 w0 (W.alloc o) g f0 f1 f2 f3 := h.below (below_alloc (Below.refl _ _) o)
theorem IsS45.drewN {w0 W : World} {g : Nat} {f0 : Int} {f1 : Int} {f2 : Int} {f3 : List (S34)} (h : IsS45 w0 W g f0 f1 f2 f3) (m : Nat) : IsS45 w0 (W.drewN m) g f0 f1 f2 f3 := h
theorem IsS45.drew {w0 W : World} {g : Nat} {f0 : Int} {f1 : Int} {f2 : Int} {f3 : List (S34)} (h : IsS45 w0 W g f0 f1 f2 f3) : IsS45 w0 W.drew g f0 f1 f2 f3 := h
theorem IsS45.at_ {w0 W : World} {g : Nat} {f0 : Int} {f1 : Int} {f2 : Int} {f3 : List (S34)} {w' : World} {m : Nat} (hq : W.drewN m = w') (h : IsS45 w0 W g f0 f1 f2 f3) : IsS45 w0 w' g f0 f1 f2 f3 := by subst hq; exact IsS45.drewN h m
theorem IsS45.apart {w0 W : World} {g : Nat} {f0 : Int} {f1 : Int} {f2 : Int} {f3 : List (S34)} {α : Type} {d : Kd α} {e : Nat} {base : Nat} {ok : Nat → Prop} {v : Value} {xs : List α} (h : IsS45 w0 W g f0 f1 f2 f3) (ho : d.R e W base ok v xs) (ht : ∀ q, q ∈ e :: d.E → q ≠ 45) : d.R e W base (fun k => ok k ∧ k ≠ g) v xs := by
  obtain ⟨A3, c3, hb, hg, hr3⟩ := h
  exact Kd.R_types ho hb ht
theorem IsS45.own_ne {w0 W : World} {g : Nat} {f0 : Int} {f1 : Int} {f2 : Int} {f3 : List (S34)} {α : Type} {d : Kd α} {e : Nat} {base : Nat} {ok : Nat → Prop} {v : Value} {xs : List α} (h : IsS45 w0 W g f0 f1 f2 f3) (ho : d.R e W base ok v xs) (ht : e ≠ 45) : some g ≠ v.ownBlock := by
  obtain ⟨A3, c3, hb, hg, hr3⟩ := h
  exact Kd.R_ne ho hb ht
theorem IsS45.apartQ {w0 W : World} {g : Nat} {f0 : Int} {f1 : Int} {f2 : Int} {f3 : List (S34)} {α : Type} {d : Kd α} {e : Nat} {base : Nat} {ok : Nat → Prop} {v : Value} {xs : List α} (h : IsS45 w0 W g f0 f1 f2 f3) (ho : d.Q e W base ok v xs) (ht : ∀ q, q ∈ e :: d.E → q ≠ 45) : d.Q e W base (fun k => ok k ∧ k ≠ g) v xs := by
  obtain ⟨A3, c3, hb, hg, hr3⟩ := h
  exact Kd.Q_types ho hb ht
theorem IsS45.own_neQ {w0 W : World} {g : Nat} {f0 : Int} {f1 : Int} {f2 : Int} {f3 : List (S34)} {α : Type} {d : Kd α} {e : Nat} {base : Nat} {ok : Nat → Prop} {v : Value} {xs : List α} (h : IsS45 w0 W g f0 f1 f2 f3) (ho : d.Q e W base ok v xs) (ht : e ≠ 45) : some g ≠ v.ownBlock := by
  obtain ⟨A3, c3, hb, hg, hr3⟩ := h
  exact Kd.Q_ne ho hb ht
theorem IsS45.apartS {w0 W : World} {g : Nat} {f0 : Int} {f1 : Int} {f2 : Int} {f3 : List (S34)} {α : Type} {d : Kd α} {e : Nat} {base : Nat} {ok : Nat → Prop} {v : Value} {xs : List α} (h : IsS45 w0 W g f0 f1 f2 f3) (ho : d.S e W base ok v xs) (ht : ∀ q, q ∈ e :: d.E → q ≠ 45) : d.S e W base (fun k => ok k ∧ k ≠ g) v xs := by
  obtain ⟨A3, c3, hb, hg, hr3⟩ := h
  exact Kd.S_types ho hb ht
theorem IsS45.own_neS {w0 W : World} {g : Nat} {f0 : Int} {f1 : Int} {f2 : Int} {f3 : List (S34)} {α : Type} {d : Kd α} {e : Nat} {base : Nat} {ok : Nat → Prop} {v : Value} {xs : List α} (h : IsS45 w0 W g f0 f1 f2 f3) (ho : d.S e W base ok v xs) (ht : e ≠ 45) : some g ≠ v.ownBlock := by
  obtain ⟨A3, c3, hb, hg, hr3⟩ := h
  exact Kd.S_ne ho hb ht
theorem IsS45.lt {w0 W : World} {g : Nat} {f0 : Int} {f1 : Int} {f2 : Int} {f3 : List (S34)} (h : IsS45 w0 W g f0 f1 f2 f3) : g < W.heap.size := by
  obtain ⟨A3, c3, hb, hg, hr3⟩ := h
  exact blk_lt hb
theorem IsS45.ge {w0 W : World} {g : Nat} {f0 : Int} {f1 : Int} {f2 : Int} {f3 : List (S34)} (h : IsS45 w0 W g f0 f1 f2 f3) : w0.heap.size ≤ g := by
  obtain ⟨A3, c3, hb, hg, hr3⟩ := h
  exact hg
theorem IsS45.ne_blk {w0 W : World} {g : Nat} {f0 : Int} {f1 : Int} {f2 : Int} {f3 : List (S34)} {a : Nat} {cs : Array Value} {t : TypeId} {fr : Nat × Nat} (h : IsS45 w0 W g f0 f1 f2 f3) (hb2 : W.heap[a]? = some (.cells cs t fr)) (ht : t ≠ 45) : g ≠ a := by
  obtain ⟨A3, c3, hb, hg, hr3⟩ := h
  rintro rfl
  rw [hb] at hb2
  injection hb2 with hb2
  injection hb2 with _ ht2
  exact ht ht2.symm
theorem IsS45.far {w0 W : World} {g : Nat} {f0 : Int} {f1 : Int} {f2 : Int} {f3 : List (S34)} {p : Addr} (h : IsS45 w0 W g f0 f1 f2 f3) (hne : g ≠ p.block) (u : Value) : IsS45 w0 (W.setCell p u) g f0 f1 f2 f3 := by
  obtain ⟨A3, c3, hb, hg, hr3⟩ := h
  exact ⟨A3, c3, blk_far hb hne u, hg, hr3⟩
theorem cellS45_0 {W : World} {g : Nat} {A3 : Option Addr} {c3 : Nat} {f0 : Int} {f1 : Int} {f2 : Int} {f3 : List (S34)} (h : W.heap[g]? = some (.cells #[.int .i64 f0, .int .u64 f1, .int .u64 f2, .slice A3 f3.length c3] 45 (0, 0))) : W.cell? ⟨g, 0, none⟩ = some (.int .i64 f0) := (blk_cell h 0).trans rfl
theorem IsS45.set_0 {w0 W : World} {g : Nat} {f0 : Int} {f1 : Int} {f2 : Int} {f3 : List (S34)} (h : IsS45 w0 W g f0 f1 f2 f3) (x : Int) : IsS45 w0 (W.setCell ⟨g, 0, none⟩ (.int .i64 x)) g x f1 f2 f3 := by
  obtain ⟨A3, c3, hb, hg, hr3⟩ := h
  exact ⟨A3, c3, by simpa using blk_set hb 0 (.int .i64 x), hg, hr3⟩
theorem cellS45_1 {W : World} {g : Nat} {A3 : Option Addr} {c3 : Nat} {f0 : Int} {f1 : Int} {f2 : Int} {f3 : List (S34)} (h : W.heap[g]? = some (.cells #[.int .i64 f0, .int .u64 f1, .int .u64 f2, .slice A3 f3.length c3] 45 (0, 0))) : W.cell? ⟨g, 1, none⟩ = some (.int .u64 f1) := (blk_cell h 1).trans rfl
theorem IsS45.set_1 {w0 W : World} {g : Nat} {f0 : Int} {f1 : Int} {f2 : Int} {f3 : List (S34)} (h : IsS45 w0 W g f0 f1 f2 f3) (x : Int) : IsS45 w0 (W.setCell ⟨g, 1, none⟩ (.int .u64 x)) g f0 x f2 f3 := by
  obtain ⟨A3, c3, hb, hg, hr3⟩ := h
  exact ⟨A3, c3, by simpa using blk_set hb 1 (.int .u64 x), hg, hr3⟩
theorem cellS45_2 {W : World} {g : Nat} {A3 : Option Addr} {c3 : Nat} {f0 : Int} {f1 : Int} {f2 : Int} {f3 : List (S34)} (h : W.heap[g]? = some (.cells #[.int .i64 f0, .int .u64 f1, .int .u64 f2, .slice A3 f3.length c3] 45 (0, 0))) : W.cell? ⟨g, 2, none⟩ = some (.int .u64 f2) := (blk_cell h 2).trans rfl
theorem IsS45.set_2 {w0 W : World} {g : Nat} {f0 : Int} {f1 : Int} {f2 : Int} {f3 : List (S34)} (h : IsS45 w0 W g f0 f1 f2 f3) (x : Int) : IsS45 w0 (W.setCell ⟨g, 2, none⟩ (.int .u64 x)) g f0 f1 x f3 := by
  obtain ⟨A3, c3, hb, hg, hr3⟩ := h
  exact ⟨A3, c3, by simpa using blk_set hb 2 (.int .u64 x), hg, hr3⟩
theorem cellS45_3 {W : World} {g : Nat} {A3 : Option Addr} {c3 : Nat} {f0 : Int} {f1 : Int} {f2 : Int} {f3 : List (S34)} (h : W.heap[g]? = some (.cells #[.int .i64 f0, .int .u64 f1, .int .u64 f2, .slice A3 f3.length c3] 45 (0, 0))) : W.cell? ⟨g, 3, none⟩ = some (.slice A3 f3.length c3) := (blk_cell h 3).trans rfl
theorem IsS45.new (w0 W : World) (A3 : Option Addr) (c3 : Nat) (f0 : Int) (f1 : Int) (f2 : Int) (f3 : List (S34)) (hB : Below w0.heap.size w0 W) (hr3 : Kd.C k34 w0 A3 f3.length f3) : IsS45 w0 (W.alloc (.cells #[.int .i64 f0, .int .u64 f1, .int .u64 f2, .slice A3 f3.length c3] 45)) W.heap.size f0 f1 f2 f3 := ⟨A3, c3, by simpa using heap_alloc_new W _, hB.size, hr3⟩

/-! ### latchkeyref20_Book_Live: function 17 -/
def latchkeyref20_Book_Live.l0 : Nat → Int → Int → Int → Int → Int → Int → List (S34) → Option (Int × Int × Int × Int)
  | 0, _, _, _, _, _, _, _ => none
  | k + 1, x1, x5, x6, x1000, x1001, x1002, x1003 => if x6 < (x1003.length : Int) then (if 0 ≤ x6 then (if ((rd_T34 x1003 x6).f3) > x1 then (latchkeyref20_Book_Live.l0 k x1 (wrap64 (x5 + 1)) (wrap64 (x6 + 1)) x1000 x1001 x1002 x1003) else (latchkeyref20_Book_Live.l0 k x1 x5 (wrap64 (x6 + 1)) x1000 x1001 x1002 x1003)) else (none)) else (some (x5, x1000, x1001, x1002))
def latchkeyref20_Book_Live.f (k : Nat) (s0_0 : Int) (s0_1 : Int) (s0_2 : Int) (s0_3 : List (S34)) (a1 : Int) : Option (Int × Int × Int × Int) := latchkeyref20_Book_Live.l0 k a1 0 0 s0_0 s0_1 s0_2 s0_3
theorem latchkeyref20_Book_Live.mono_l : ∀ k, (∀ y0 y1 y2 y3 y4 y5 y6, LeO (latchkeyref20_Book_Live.l0 k y0 y1 y2 y3 y4 y5 y6) (latchkeyref20_Book_Live.l0 (k + 1) y0 y1 y2 y3 y4 y5 y6))
  | 0 => fun _ _ _ _ _ _ _ r h => by simp [latchkeyref20_Book_Live.l0] at h
  | k + 1 => by
    have ih0 := latchkeyref20_Book_Live.mono_l k
    · intro y0 y1 y2 y3 y4 y5 y6
      unfold latchkeyref20_Book_Live.l0
      repeat' first
      | (with_reducible exact ih0 _ _ _ _ _ _ _)
      | (with_reducible exact LeO.refl _)
      | (with_reducible exact LeO.none _)
      | (with_reducible refine LeO.ite ?_ ?_)
      | (with_reducible refine LeO.bind ?_ (fun _ => ?_))
      | exact ih0 _ _ _ _ _ _ _
      | exact LeO.none _
      | refine LeO.ite ?_ ?_
      | refine LeO.bind ?_ (fun _ => ?_)
theorem latchkeyref20_Book_Live.mono : ∀ a0 a1 a2 a3 a4 k, LeO (latchkeyref20_Book_Live.f k a0 a1 a2 a3 a4) (latchkeyref20_Book_Live.f (k + 1) a0 a1 a2 a3 a4) := by
  intro a0 a1 a2 a3 a4 k
  have ih0 := latchkeyref20_Book_Live.mono_l k
  unfold latchkeyref20_Book_Live.f
  repeat' first
      | (with_reducible exact ih0 _ _ _ _ _ _ _)
      | (with_reducible exact LeO.refl _)
      | (with_reducible exact LeO.none _)
      | (with_reducible refine LeO.ite ?_ ?_)
      | (with_reducible refine LeO.bind ?_ (fun _ => ?_))
      | exact ih0 _ _ _ _ _ _ _
      | exact LeO.none _
      | refine LeO.ite ?_ ?_
      | refine LeO.bind ?_ (fun _ => ?_)
set_option maxHeartbeats 8000000 in
set_option maxRecDepth 100000 in
theorem latchkeyref20_Book_Live.calls (k : Nat) (g : Nat) (s0_0 : Int) (s0_1 : Int) (s0_2 : Int) (s0_3 : List (S34)) (a1 : Int) (r1 : Int) (r2 : Int) (r3 : Int) (r4 : Int) (w0 w : World) (hI : IsS45 w0 w g s0_0 s0_1 s0_2 s0_3) (hB : Below w0.heap.size w0 w) (h : latchkeyref20_Book_Live.f k s0_0 s0_1 s0_2 s0_3 a1 = some (r1, r2, r3, r4)) :
    Calls Try.prog 17 #[.pointer (some ⟨g, 0, none⟩), .int .u64 a1] w fun e w' => e = .returned (.int .i64 r1) ∧ IsS45 w0 w' g r2 r3 r4 s0_3 ∧ Below w0.heap.size w0 w' ∧ KeepBut w w' g none := by
  have HI0 := Aside0.mk hI
  have HK := Aside0.mk (KeepBut.refl w g none)
  have HL := Aside0.mk hB.size
  clear hI
  have HW0 := Aside0.mk hB.size
  have HB := Aside0.mk hB
  clear hB
  have H : (latchkeyref20_Book_Live.l0 k a1 0 0 s0_0 s0_1 s0_2 s0_3) = some (r1, r2, r3, r4) := h
  clear h
  have H' := Aside0.mk H
  clear H
  go_enter Try.func17, Try.ntmps17
  go_wp2
  go_loopg [5, 6] k (fun kq v5 v6 w' => ∃ (x5_1 : Int) (x6_1 : Int), v5 = .int .i64 x5_1 ∧ v6 = .int .i64 x6_1 ∧ Aside0 (latchkeyref20_Book_Live.l0 kq a1 x5_1 x6_1 s0_0 s0_1 s0_2 s0_3 = some (r1, r2, r3, r4)) ∧ Aside0 (kq ≤ k) ∧ Aside0 (IsS45 w0 w' g s0_0 s0_1 s0_2 s0_3) ∧ Aside0 (KeepBut w w' g none) ∧ Aside0 (Below w0.heap.size w0 w'))
  case atStart => exact ⟨(0), (0), (by first | rfl | (simp; done) | (simp [*]; done)), (by first | rfl | (simp; done) | (simp [*]; done)), H', ⟨Nat.le_refl _⟩, ⟨by repeat (first | (with_reducible first | exact HI0.out | apply IsS45.alloc | apply IsS45.drewN | apply IsS45.drew | apply IsS45.set_0 | apply IsS45.set_1 | apply IsS45.set_2) | exact HI0.out)⟩, ⟨by repeat (first | (with_reducible first | exact HK.out | apply KeepBut.set_ | apply keep_drewN | apply keep_drew | apply keep_alloc) | exact HK.out)⟩, ⟨by repeat (first | (with_reducible first | exact HB.out | apply below_alloc | apply pw_below_drewN | apply below_drew1 | refine below_set ?_ (IsS45.ge HI0.out)) | exact HB.out)⟩⟩
  case round =>
    clear H'
    try clear c1
    try clear p2
    obtain ⟨x5_1, x6_1, rfl, rfl, HA, HK1, HI0, HK, HB⟩ := hrel
    cases gk with
    | zero => exact absurd HA.out (by simp [latchkeyref20_Book_Live.l0])
    | succ k1 =>
      have H := HA.out
      clear HA
      simp only [latchkeyref20_Book_Live.l0] at H
      by_cases c3 : x6_1 < (s0_3.length : Int)
      · rw [if_pos c3] at H
        have c3b0 : decide (x6_1 < (s0_3.length : Int)) = true := decide_eq_true c3
        clear c3
        by_cases c4 : 0 ≤ x6_1
        · rw [if_pos c4] at H
          have c4b0 : decide (0 ≤ x6_1) = true := decide_eq_true c4
          clear c4
          by_cases c5 : ((rd_T34 s0_3 x6_1).f3) > a1
          · rw [if_pos c5] at H
            have c5b0 : decide (a1 < ((rd_T34 s0_3 x6_1).f3)) = true := decide_eq_true c5
            clear c5
            have H' := Aside0.mk H
            clear H
            obtain ⟨ASz6_3, cSz6_3, HGz6, hgz6, HSz6_3⟩ := HI0.out
            have hcz6_0 := cellS45_0 HGz6
            have hcz6_1 := cellS45_1 HGz6
            have hcz6_2 := cellS45_2 HGz6
            have hcz6_3 := cellS45_3 HGz6
            have hfz6_0 := blk_frozen HGz6 0
            have hfz6_1 := blk_frozen HGz6 1
            have hfz6_2 := blk_frozen HGz6 2
            clear HGz6 hgz6
            have p150 : 0 ≤ (x6_1 : Int) := of_decide_eq_true (by first | (with_reducible assumption) | assumption)
            have q150 : x6_1 < (s0_3.length : Int) := of_decide_eq_true (by first | (with_reducible assumption) | assumption)
            obtain ⟨ad150, A150_2, c150_2, e150, hx150_0, hx150_1, hx150_2, hx150_3, hx150_4, hx150_5, hl150_2, hi150_2⟩ := at_T34 HSz6_3 x6_1 p150 q150
            cases e150
            replace hx150_0 := pw_cell_below HB.out hx150_0
            replace hx150_1 := pw_cell_below HB.out hx150_1
            replace hx150_2 := pw_cell_below HB.out hx150_2
            replace hx150_3 := pw_cell_below HB.out hx150_3
            replace hx150_4 := pw_cell_below HB.out hx150_4
            replace hx150_5 := pw_cell_below HB.out hx150_5
            have HR150_2 := Aside0.mk hi150_2
            have HC150_2 := Aside0.mk hl150_2
            clear hi150_2 hl150_2
            replace p150 := eq_true p150
            replace q150 := eq_true q150
            go_wp2
            go_roundg k1
            case measure => have := HK1.out; omega
            case rel => exact ⟨(wrap64 (x5_1 + 1)), (wrap64 (x6_1 + 1)), (by first | rfl | (simp; done) | (simp [*]; done)), (by first | rfl | (simp; done) | (simp [*]; done)), H', ⟨by have := HK1.out; omega⟩, ⟨by repeat (first | (with_reducible first | exact HI0.out | apply IsS45.alloc | apply IsS45.drewN | apply IsS45.drew | apply IsS45.set_0 | apply IsS45.set_1 | apply IsS45.set_2) | exact HI0.out)⟩, ⟨by repeat (first | (with_reducible first | exact HK.out | apply KeepBut.set_ | apply keep_drewN | apply keep_drew | apply keep_alloc) | exact HK.out)⟩, ⟨by repeat (first | (with_reducible first | exact HB.out | apply below_alloc | apply pw_below_drewN | apply below_drew1 | refine below_set ?_ (IsS45.ge HI0.out)) | exact HB.out)⟩⟩
          · rw [if_neg c5] at H
            have c5b0 : decide (a1 < ((rd_T34 s0_3 x6_1).f3)) = false := decide_eq_false c5
            clear c5
            have H' := Aside0.mk H
            clear H
            obtain ⟨ASz7_3, cSz7_3, HGz7, hgz7, HSz7_3⟩ := HI0.out
            have hcz7_0 := cellS45_0 HGz7
            have hcz7_1 := cellS45_1 HGz7
            have hcz7_2 := cellS45_2 HGz7
            have hcz7_3 := cellS45_3 HGz7
            have hfz7_0 := blk_frozen HGz7 0
            have hfz7_1 := blk_frozen HGz7 1
            have hfz7_2 := blk_frozen HGz7 2
            clear HGz7 hgz7
            have p150 : 0 ≤ (x6_1 : Int) := of_decide_eq_true (by first | (with_reducible assumption) | assumption)
            have q150 : x6_1 < (s0_3.length : Int) := of_decide_eq_true (by first | (with_reducible assumption) | assumption)
            obtain ⟨ad150, A150_2, c150_2, e150, hx150_0, hx150_1, hx150_2, hx150_3, hx150_4, hx150_5, hl150_2, hi150_2⟩ := at_T34 HSz7_3 x6_1 p150 q150
            cases e150
            replace hx150_0 := pw_cell_below HB.out hx150_0
            replace hx150_1 := pw_cell_below HB.out hx150_1
            replace hx150_2 := pw_cell_below HB.out hx150_2
            replace hx150_3 := pw_cell_below HB.out hx150_3
            replace hx150_4 := pw_cell_below HB.out hx150_4
            replace hx150_5 := pw_cell_below HB.out hx150_5
            have HR150_2 := Aside0.mk hi150_2
            have HC150_2 := Aside0.mk hl150_2
            clear hi150_2 hl150_2
            replace p150 := eq_true p150
            replace q150 := eq_true q150
            go_wp2
            go_roundg k1
            case measure => have := HK1.out; omega
            case rel => exact ⟨(x5_1), (wrap64 (x6_1 + 1)), (by first | rfl | (simp; done) | (simp [*]; done)), (by first | rfl | (simp; done) | (simp [*]; done)), H', ⟨by have := HK1.out; omega⟩, ⟨by repeat (first | (with_reducible first | exact HI0.out | apply IsS45.alloc | apply IsS45.drewN | apply IsS45.drew | apply IsS45.set_0 | apply IsS45.set_1 | apply IsS45.set_2) | exact HI0.out)⟩, ⟨by repeat (first | (with_reducible first | exact HK.out | apply KeepBut.set_ | apply keep_drewN | apply keep_drew | apply keep_alloc) | exact HK.out)⟩, ⟨by repeat (first | (with_reducible first | exact HB.out | apply below_alloc | apply pw_below_drewN | apply below_drew1 | refine below_set ?_ (IsS45.ge HI0.out)) | exact HB.out)⟩⟩
        · rw [if_neg c4] at H
          exact absurd H (by simp)
      · rw [if_neg c3] at H
        have c3b0 : decide (x6_1 < (s0_3.length : Int)) = false := decide_eq_false c3
        clear c3
        simp only [Option.some.injEq, Prod.mk.injEq] at H
        obtain ⟨rfl, rfl, rfl, rfl⟩ := H
        obtain ⟨ASz8_3, cSz8_3, HGz8, hgz8, HSz8_3⟩ := HI0.out
        have hcz8_0 := cellS45_0 HGz8
        have hcz8_1 := cellS45_1 HGz8
        have hcz8_2 := cellS45_2 HGz8
        have hcz8_3 := cellS45_3 HGz8
        have hfz8_0 := blk_frozen HGz8 0
        have hfz8_1 := blk_frozen HGz8 1
        have hfz8_2 := blk_frozen HGz8 2
        clear HGz8 hgz8
        go_wp2
        go_ret
        exact ⟨by first | rfl | (simp [errW_none, errW_some] <;> rfl) | (simp [*, errW_none, errW_some] <;> rfl), by repeat (first | (with_reducible first | exact HI0.out | apply IsS45.alloc | apply IsS45.drewN | apply IsS45.drew | apply IsS45.set_0 | apply IsS45.set_1 | apply IsS45.set_2) | exact HI0.out), by repeat (first | (with_reducible first | exact HB.out | apply below_alloc | apply pw_below_drewN | apply below_drew1 | refine below_set ?_ (IsS45.ge HI0.out)) | exact HB.out), by repeat (first | (with_reducible first | exact HK.out | apply KeepBut.set_ | apply keep_drewN | apply keep_drew | apply keep_alloc) | exact HK.out)⟩

-- NOT PRINTED: function 5 (latchkeylaw20_SessPlays)

end Go.Proofs.Ytphbpcmncelkhaa.PSessPlays
