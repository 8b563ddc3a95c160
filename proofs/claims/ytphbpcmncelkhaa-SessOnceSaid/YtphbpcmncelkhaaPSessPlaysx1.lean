-- PRINTED BY print.sh 35421559b90ae4d0a3588c463048766b98c2df88dd9212a6774a882060cdf62d: not written by this session
import Derived.Test.YtphbpcmncelkhaaPSessPlaysx0
namespace Go.Proofs.Ytphbpcmncelkhaa.PSessPlays
open Go.RowKit Go.Proofs.YtphbpcmncelkhaaW.PrintWords Go.Proofs.YtphbpcmncelkhaaW.PrintLast Go.Proofs.YtphbpcmncelkhaaW.PrintMore
attribute [local go_sem] max2_int min2_int max_two min_two max_three min_three max_four min_four   -- for this text's walks alone
set_option linter.unusedVariables false
set_option linter.unusedSimpArgs false

/-- A state of type 58 at block g of W; what its slices lead to came in by w0. -/
def IsS58 (w0 W : World) (g : Nat) (f0 : Int) (f1 : Int) (f2 : Int) (f3 : List (S34)) : Prop := ∃ A3 c3, W.heap[g]? = some (.cells #[.int .i64 f0, .int .u64 f1, .int .u64 f2, .slice A3 f3.length c3] 58 (0, 0)) ∧ w0.heap.size ≤ g ∧ Kd.C k34 w0 A3 f3.length f3
theorem IsS58.grown {w0 W : World} {g : Nat} {f0 : Int} {f1 : Int} {f2 : Int} {f3 : List (S34)} {W1 : World} {row : Option Nat} (h : IsS58 w0 W g f0 f1 f2 f3) (hw : W.grownBy W1 row) (hne : some g ≠ row) : IsS58 w0 W1 g f0 f1 f2 f3 := by
  obtain ⟨A3, c3, hb, hg, hr3⟩ := h
  exact ⟨A3, c3, blk_grown hb hw hne, hg, hr3⟩
theorem IsS58.own_neN {w0 W : World} {g : Nat} {f0 : Int} {f1 : Int} {f2 : Int} {f3 : List (S34)} {α : Type} {d : Kd α} {e : Nat} {base : Nat} {ok : Nat → Prop} {v : Value} {xs : List α} (h : IsS58 w0 W g f0 f1 f2 f3) (ho : Kd.N d e W base ok v xs) (ht : e ≠ 58) : some g ≠ v.ownBlock := by
  obtain ⟨A3, c3, hb, hg, hr3⟩ := h
  exact Kd.N_ne ho hb ht
theorem IsS58.fresh {w0 W : World} {g : Nat} {f0 : Int} {f1 : Int} {f2 : Int} {f3 : List (S34)} (h : IsS58 w0 W g f0 f1 f2 f3) : ∀ k, W.heap.size ≤ k → k ≠ g := by
  obtain ⟨A3, c3, hb, hg, hr3⟩ := h
  exact Kd.freshB hb
theorem IsS58.kept {w0 W : World} {g : Nat} {f0 : Int} {f1 : Int} {f2 : Int} {f3 : List (S34)} {W1 : World} {S : Nat → Prop} (h : IsS58 w0 W g f0 f1 f2 f3) (hk : Kept W W1 S) (hne : ¬ S g) : IsS58 w0 W1 g f0 f1 f2 f3 := by
  obtain ⟨A3, c3, hb, hg, hr3⟩ := h
  exact ⟨A3, c3, blk_kept hb hk hne, hg, hr3⟩
theorem IsS58.below {w0 W : World} {g : Nat} {f0 : Int} {f1 : Int} {f2 : Int} {f3 : List (S34)} {W1 : World} (h : IsS58 w0 W g f0 f1 f2 f3) (hw : Below W.heap.size W W1) : IsS58 w0 W1 g f0 f1 f2 f3 := h.grown (grown_of_below hw none) (by simp)
theorem IsS58.alloc {w0 W : World} {g : Nat} {f0 : Int} {f1 : Int} {f2 : Int} {f3 : List (S34)} (h : IsS58 w0 W g f0 f1 f2 f3) (o : Obj) : IsS58 w0 (W.alloc o) g f0 f1 f2 f3 := h.below (below_alloc (Below.refl _ _) o)
theorem IsS58.drewN {w0 W : World} {g : Nat} {f0 : Int} {f1 : Int} {f2 : Int} {f3 : List (S34)} (h : IsS58 w0 W g f0 f1 f2 f3) (m : Nat) : IsS58 w0 (W.drewN m) g f0 f1 f2 f3 := h
theorem IsS58.drew {w0 W : World} {g : Nat} {f0 : Int} {f1 : Int} {f2 : Int} {f3 : List (S34)} (h : IsS58 w0 W g f0 f1 f2 f3) : IsS58 w0 W.drew g f0 f1 f2 f3 := h
theorem IsS58.at_ {w0 W : World} {g : Nat} {f0 : Int} {f1 : Int} {f2 : Int} {f3 : List (S34)} {w' : World} {m : Nat} (hq : W.drewN m = w') (h : IsS58 w0 W g f0 f1 f2 f3) : IsS58 w0 w' g f0 f1 f2 f3 := by subst hq; exact IsS58.drewN h m
theorem IsS58.apart {w0 W : World} {g : Nat} {f0 : Int} {f1 : Int} {f2 : Int} {f3 : List (S34)} {α : Type} {d : Kd α} {e : Nat} {base : Nat} {ok : Nat → Prop} {v : Value} {xs : List α} (h : IsS58 w0 W g f0 f1 f2 f3) (ho : d.R e W base ok v xs) (ht : ∀ q, q ∈ e :: d.E → q ≠ 58) : d.R e W base (fun k => ok k ∧ k ≠ g) v xs := by
  obtain ⟨A3, c3, hb, hg, hr3⟩ := h
  exact Kd.R_types ho hb ht
theorem IsS58.own_ne {w0 W : World} {g : Nat} {f0 : Int} {f1 : Int} {f2 : Int} {f3 : List (S34)} {α : Type} {d : Kd α} {e : Nat} {base : Nat} {ok : Nat → Prop} {v : Value} {xs : List α} (h : IsS58 w0 W g f0 f1 f2 f3) (ho : d.R e W base ok v xs) (ht : e ≠ 58) : some g ≠ v.ownBlock := by
  obtain ⟨A3, c3, hb, hg, hr3⟩ := h
  exact Kd.R_ne ho hb ht
theorem IsS58.apartQ {w0 W : World} {g : Nat} {f0 : Int} {f1 : Int} {f2 : Int} {f3 : List (S34)} {α : Type} {d : Kd α} {e : Nat} {base : Nat} {ok : Nat → Prop} {v : Value} {xs : List α} (h : IsS58 w0 W g f0 f1 f2 f3) (ho : d.Q e W base ok v xs) (ht : ∀ q, q ∈ e :: d.E → q ≠ 58) : d.Q e W base (fun k => ok k ∧ k ≠ g) v xs := by
  obtain ⟨A3, c3, hb, hg, hr3⟩ := h
  exact Kd.Q_types ho hb ht
theorem IsS58.own_neQ {w0 W : World} {g : Nat} {f0 : Int} {f1 : Int} {f2 : Int} {f3 : List (S34)} {α : Type} {d : Kd α} {e : Nat} {base : Nat} {ok : Nat → Prop} {v : Value} {xs : List α} (h : IsS58 w0 W g f0 f1 f2 f3) (ho : d.Q e W base ok v xs) (ht : e ≠ 58) : some g ≠ v.ownBlock := by
  obtain ⟨A3, c3, hb, hg, hr3⟩ := h
  exact Kd.Q_ne ho hb ht
theorem IsS58.apartS {w0 W : World} {g : Nat} {f0 : Int} {f1 : Int} {f2 : Int} {f3 : List (S34)} {α : Type} {d : Kd α} {e : Nat} {base : Nat} {ok : Nat → Prop} {v : Value} {xs : List α} (h : IsS58 w0 W g f0 f1 f2 f3) (ho : d.S e W base ok v xs) (ht : ∀ q, q ∈ e :: d.E → q ≠ 58) : d.S e W base (fun k => ok k ∧ k ≠ g) v xs := by
  obtain ⟨A3, c3, hb, hg, hr3⟩ := h
  exact Kd.S_types ho hb ht
theorem IsS58.own_neS {w0 W : World} {g : Nat} {f0 : Int} {f1 : Int} {f2 : Int} {f3 : List (S34)} {α : Type} {d : Kd α} {e : Nat} {base : Nat} {ok : Nat → Prop} {v : Value} {xs : List α} (h : IsS58 w0 W g f0 f1 f2 f3) (ho : d.S e W base ok v xs) (ht : e ≠ 58) : some g ≠ v.ownBlock := by
  obtain ⟨A3, c3, hb, hg, hr3⟩ := h
  exact Kd.S_ne ho hb ht
theorem IsS58.lt {w0 W : World} {g : Nat} {f0 : Int} {f1 : Int} {f2 : Int} {f3 : List (S34)} (h : IsS58 w0 W g f0 f1 f2 f3) : g < W.heap.size := by
  obtain ⟨A3, c3, hb, hg, hr3⟩ := h
  exact blk_lt hb
theorem IsS58.ge {w0 W : World} {g : Nat} {f0 : Int} {f1 : Int} {f2 : Int} {f3 : List (S34)} (h : IsS58 w0 W g f0 f1 f2 f3) : w0.heap.size ≤ g := by
  obtain ⟨A3, c3, hb, hg, hr3⟩ := h
  exact hg
theorem IsS58.ne_blk {w0 W : World} {g : Nat} {f0 : Int} {f1 : Int} {f2 : Int} {f3 : List (S34)} {a : Nat} {cs : Array Value} {t : TypeId} {fr : Nat × Nat} (h : IsS58 w0 W g f0 f1 f2 f3) (hb2 : W.heap[a]? = some (.cells cs t fr)) (ht : t ≠ 58) : g ≠ a := by
  obtain ⟨A3, c3, hb, hg, hr3⟩ := h
  rintro rfl
  rw [hb] at hb2
  injection hb2 with hb2
  injection hb2 with _ ht2
  exact ht ht2.symm
theorem IsS58.far {w0 W : World} {g : Nat} {f0 : Int} {f1 : Int} {f2 : Int} {f3 : List (S34)} {p : Addr} (h : IsS58 w0 W g f0 f1 f2 f3) (hne : g ≠ p.block) (u : Value) : IsS58 w0 (W.setCell p u) g f0 f1 f2 f3 := by
  obtain ⟨A3, c3, hb, hg, hr3⟩ := h
  exact ⟨A3, c3, blk_far hb hne u, hg, hr3⟩
theorem cellS58_0 {W : World} {g : Nat} {A3 : Option Addr} {c3 : Nat} {f0 : Int} {f1 : Int} {f2 : Int} {f3 : List (S34)} (h : W.heap[g]? = some (.cells #[.int .i64 f0, .int .u64 f1, .int .u64 f2, .slice A3 f3.length c3] 58 (0, 0))) : W.cell? ⟨g, 0, none⟩ = some (.int .i64 f0) := (blk_cell h 0).trans rfl
theorem IsS58.set_0 {w0 W : World} {g : Nat} {f0 : Int} {f1 : Int} {f2 : Int} {f3 : List (S34)} (h : IsS58 w0 W g f0 f1 f2 f3) (x : Int) : IsS58 w0 (W.setCell ⟨g, 0, none⟩ (.int .i64 x)) g x f1 f2 f3 := by
  obtain ⟨A3, c3, hb, hg, hr3⟩ := h
  exact ⟨A3, c3, by simpa using blk_set hb 0 (.int .i64 x), hg, hr3⟩
theorem cellS58_1 {W : World} {g : Nat} {A3 : Option Addr} {c3 : Nat} {f0 : Int} {f1 : Int} {f2 : Int} {f3 : List (S34)} (h : W.heap[g]? = some (.cells #[.int .i64 f0, .int .u64 f1, .int .u64 f2, .slice A3 f3.length c3] 58 (0, 0))) : W.cell? ⟨g, 1, none⟩ = some (.int .u64 f1) := (blk_cell h 1).trans rfl
theorem IsS58.set_1 {w0 W : World} {g : Nat} {f0 : Int} {f1 : Int} {f2 : Int} {f3 : List (S34)} (h : IsS58 w0 W g f0 f1 f2 f3) (x : Int) : IsS58 w0 (W.setCell ⟨g, 1, none⟩ (.int .u64 x)) g f0 x f2 f3 := by
  obtain ⟨A3, c3, hb, hg, hr3⟩ := h
  exact ⟨A3, c3, by simpa using blk_set hb 1 (.int .u64 x), hg, hr3⟩
theorem cellS58_2 {W : World} {g : Nat} {A3 : Option Addr} {c3 : Nat} {f0 : Int} {f1 : Int} {f2 : Int} {f3 : List (S34)} (h : W.heap[g]? = some (.cells #[.int .i64 f0, .int .u64 f1, .int .u64 f2, .slice A3 f3.length c3] 58 (0, 0))) : W.cell? ⟨g, 2, none⟩ = some (.int .u64 f2) := (blk_cell h 2).trans rfl
theorem IsS58.set_2 {w0 W : World} {g : Nat} {f0 : Int} {f1 : Int} {f2 : Int} {f3 : List (S34)} (h : IsS58 w0 W g f0 f1 f2 f3) (x : Int) : IsS58 w0 (W.setCell ⟨g, 2, none⟩ (.int .u64 x)) g f0 f1 x f3 := by
  obtain ⟨A3, c3, hb, hg, hr3⟩ := h
  exact ⟨A3, c3, by simpa using blk_set hb 2 (.int .u64 x), hg, hr3⟩
theorem cellS58_3 {W : World} {g : Nat} {A3 : Option Addr} {c3 : Nat} {f0 : Int} {f1 : Int} {f2 : Int} {f3 : List (S34)} (h : W.heap[g]? = some (.cells #[.int .i64 f0, .int .u64 f1, .int .u64 f2, .slice A3 f3.length c3] 58 (0, 0))) : W.cell? ⟨g, 3, none⟩ = some (.slice A3 f3.length c3) := (blk_cell h 3).trans rfl
theorem IsS58.new (w0 W : World) (A3 : Option Addr) (c3 : Nat) (f0 : Int) (f1 : Int) (f2 : Int) (f3 : List (S34)) (hB : Below w0.heap.size w0 W) (hr3 : Kd.C k34 w0 A3 f3.length f3) : IsS58 w0 (W.alloc (.cells #[.int .i64 f0, .int .u64 f1, .int .u64 f2, .slice A3 f3.length c3] 58)) W.heap.size f0 f1 f2 f3 := ⟨A3, c3, by simpa using heap_alloc_new W _, hB.size, hr3⟩

/-! ### sess_New: function 8 -/
def sess_New.f (a0 : Int) (a1 : Int) (a2 : Int) : Option (Int × Int × Int × (List (S34))) := some (a0, a1, a2, ([] : List (S34)))
set_option maxHeartbeats 8000000 in
set_option maxRecDepth 100000 in
theorem sess_New.calls (a0 : Int) (a1 : Int) (a2 : Int) (r1 : Int) (r2 : Int) (r3 : Int) (r4 : List (S34)) (w0 w : World) (hB : Below w0.heap.size w0 w) (h : sess_New.f a0 a1 a2 = some (r1, r2, r3, r4)) :
    Calls Try.prog 8 #[.int .i64 a0, .int .u64 a1, .int .u64 a2] w fun e w' => ∃ g_ : Nat, e = .returned (.pointer (some ⟨g_, 0, none⟩)) ∧ IsS58 w0 w' g_ r1 r2 r3 r4 ∧ Below w0.heap.size w0 w' ∧ Below w.heap.size w w' := by
  have hu58 := Try.underlying58
  have HBW := Aside0.mk (Below.refl w.heap.size w)
  have HW0 := Aside0.mk hB.size
  have HB := Aside0.mk hB
  clear hB
  have H : (some (a0, a1, a2, ([] : List (S34)))) = some (r1, r2, r3, r4) := h
  clear h
  simp only [Option.some.injEq, Prod.mk.injEq] at H
  obtain ⟨rfl, rfl, rfl, rfl⟩ := H
  go_enter Try.func8, Try.ntmps8
  go_wp2_with (first | ((with_reducible refine gate_dst (N := 11) rfl ?_); refine box_event ?hg (N := 11) ?hd (cs := #[.int .i64 a0, .int .u64 a1, .int .u64 a2, .slice none 0 0]) (t := 58) ?hr ?_; (case hd => rfl); (case hg => rfl); (case hr => first | (go_simp; done) | (go_simp; rfl)); intro gb101 hg w4 hbox hb; have n0_ := Aside0.mk (below_step HBW.out hb); have n1_ := Aside0.mk (below_step (by repeat (first | (with_reducible first | exact HB.out | apply below_alloc | apply pw_below_drewN | apply below_drew1) | exact HB.out)) hb); have n2_ := Aside0.mk (hbox); have n3_ := Aside0.mk ((by rw [hg]; exact (below_size (by repeat (first | (with_reducible first | exact HBW.out | apply below_alloc | apply pw_below_drewN | apply below_drew1) | exact HBW.out))) : w.heap.size ≤ gb101)); have n4_ := Aside0.mk ((Nat.le_trans HW0.out (by rw [hg]; exact (below_size (by repeat (first | (with_reducible first | exact HBW.out | apply below_alloc | apply pw_below_drewN | apply below_drew1) | exact HBW.out))) : w.heap.size ≤ gb101) : w0.heap.size ≤ gb101)); clear HBW; clear HB; have HBW := n0_; have HB := n1_; have BK101 := n2_; have GW101 := n3_; have GE101 := n4_; clear n0_ n1_ n2_ n3_ n4_; clear hb hbox hg))
  go_ret
  exact ⟨_, rfl, (show IsS58 w0 _ gb101 a0 a1 a2 ([] : List (S34)) from ⟨none, 0, by (with_reducible repeat (first | refine blk_drewN ?_ _ | refine blk_drew ?_ | refine blk_alloc ?_ _)); exact BK101.out, GE101.out, (Kd.C_nil _ _)⟩), by repeat (first | (with_reducible first | exact HB.out | apply below_alloc | apply pw_below_drewN | apply below_drew1 | refine below_set ?_ GE101.out) | exact HB.out), by repeat (first | (with_reducible first | exact HBW.out | apply below_alloc | apply pw_below_drewN | apply below_drew1 | refine below_set ?_ GW101.out) | exact HBW.out)⟩

-- NOT PRINTED: function 24 (api_Session_24)

-- NOT PRINTED: function 27 (api_Session_27)

-- NOT PRINTED: function 18 (sess_Book_sweep)

-- NOT PRINTED: function 19 (api_Session_19)

-- NOT PRINTED: function 22 (slices_Clone_byte_byte)

/-! ### sess_Book_ends: function 23 -/
def sess_Book_ends.f (s0_0 : Int) (s0_1 : Int) (s0_2 : Int) (s0_3 : List (S34)) (a1 : Int) : Option (Int × Int × Int × Int) := if (IntKind.u64.wrap (a1 + s0_1)) ≥ a1 then (some (IntKind.u64.wrap (a1 + s0_1), s0_0, s0_1, s0_2)) else (some (18446744073709551615, s0_0, s0_1, s0_2))
set_option maxHeartbeats 8000000 in
set_option maxRecDepth 100000 in
theorem sess_Book_ends.calls (g : Nat) (s0_0 : Int) (s0_1 : Int) (s0_2 : Int) (s0_3 : List (S34)) (a1 : Int) (r1 : Int) (r2 : Int) (r3 : Int) (r4 : Int) (w0 w : World) (hI : IsS58 w0 w g s0_0 s0_1 s0_2 s0_3) (hB : Below w0.heap.size w0 w) (h : sess_Book_ends.f s0_0 s0_1 s0_2 s0_3 a1 = some (r1, r2, r3, r4)) :
    Calls Try.prog 23 #[.pointer (some ⟨g, 0, none⟩), .int .u64 a1] w fun e w' => e = .returned (.int .u64 r1) ∧ IsS58 w0 w' g r2 r3 r4 s0_3 ∧ Below w0.heap.size w0 w' ∧ KeepBut w w' g none := by
  have HI0 := Aside0.mk hI
  have HK := Aside0.mk (KeepBut.refl w g none)
  have HL := Aside0.mk hB.size
  clear hI
  have HW0 := Aside0.mk hB.size
  have HB := Aside0.mk hB
  clear hB
  have H : (if (IntKind.u64.wrap (a1 + s0_1)) ≥ a1 then (some (IntKind.u64.wrap (a1 + s0_1), s0_0, s0_1, s0_2)) else (some (18446744073709551615, s0_0, s0_1, s0_2))) = some (r1, r2, r3, r4) := h
  clear h
  by_cases c3 : (IntKind.u64.wrap (a1 + s0_1)) ≥ a1
  · rw [if_pos c3] at H
    have c3b0 : decide (a1 ≤ (IntKind.u64.wrap (a1 + s0_1))) = true := decide_eq_true c3
    clear c3
    simp only [Option.some.injEq, Prod.mk.injEq] at H
    obtain ⟨rfl, rfl, rfl, rfl⟩ := H
    obtain ⟨ASz4_3, cSz4_3, HGz4, hgz4, HSz4_3⟩ := HI0.out
    have hcz4_0 := cellS58_0 HGz4
    have hcz4_1 := cellS58_1 HGz4
    have hcz4_2 := cellS58_2 HGz4
    have hcz4_3 := cellS58_3 HGz4
    have hfz4_0 := blk_frozen HGz4 0
    have hfz4_1 := blk_frozen HGz4 1
    have hfz4_2 := blk_frozen HGz4 2
    clear HGz4 hgz4
    go_enter Try.func23, Try.ntmps23
    go_wp2
    go_ret
    exact ⟨by first | rfl | (simp [errW_none, errW_some] <;> rfl) | (simp [*, errW_none, errW_some] <;> rfl), by repeat (first | (with_reducible first | exact HI0.out | apply IsS58.alloc | apply IsS58.drewN | apply IsS58.drew | apply IsS58.set_0 | apply IsS58.set_1 | apply IsS58.set_2) | exact HI0.out), by repeat (first | (with_reducible first | exact HB.out | apply below_alloc | apply pw_below_drewN | apply below_drew1 | refine below_set ?_ (IsS58.ge HI0.out)) | exact HB.out), by repeat (first | (with_reducible first | exact HK.out | apply KeepBut.set_ | apply keep_drewN | apply keep_drew | apply keep_alloc) | exact HK.out)⟩
  · rw [if_neg c3] at H
    have c3b0 : decide (a1 ≤ (IntKind.u64.wrap (a1 + s0_1))) = false := decide_eq_false c3
    clear c3
    simp only [Option.some.injEq, Prod.mk.injEq] at H
    obtain ⟨rfl, rfl, rfl, rfl⟩ := H
    obtain ⟨ASz5_3, cSz5_3, HGz5, hgz5, HSz5_3⟩ := HI0.out
    have hcz5_0 := cellS58_0 HGz5
    have hcz5_1 := cellS58_1 HGz5
    have hcz5_2 := cellS58_2 HGz5
    have hcz5_3 := cellS58_3 HGz5
    have hfz5_0 := blk_frozen HGz5 0
    have hfz5_1 := blk_frozen HGz5 1
    have hfz5_2 := blk_frozen HGz5 2
    clear HGz5 hgz5
    go_enter Try.func23, Try.ntmps23
    go_wp2
    go_ret
    exact ⟨by first | rfl | (simp [errW_none, errW_some] <;> rfl) | (simp [*, errW_none, errW_some] <;> rfl), by repeat (first | (with_reducible first | exact HI0.out | apply IsS58.alloc | apply IsS58.drewN | apply IsS58.drew | apply IsS58.set_0 | apply IsS58.set_1 | apply IsS58.set_2) | exact HI0.out), by repeat (first | (with_reducible first | exact HB.out | apply below_alloc | apply pw_below_drewN | apply below_drew1 | refine below_set ?_ (IsS58.ge HI0.out)) | exact HB.out), by repeat (first | (with_reducible first | exact HK.out | apply KeepBut.set_ | apply keep_drewN | apply keep_drew | apply keep_alloc) | exact HK.out)⟩

-- NOT PRINTED: function 9 (sess_Book_Begin)

-- NOT PRINTED: function 26 (api_Session_26)

-- NOT PRINTED: function 11 (sess_Book_Take)

-- NOT PRINTED: function 7 (latchkeylaw20_Awake)

/-! ### latchkeyhand18_Draw: function 10 -/
def latchkeyhand18_Draw.l0 : Nat → Int → Int → List Int → Int → Option (List Int)
  | 0, _, _, _, _ => none
  | k + 1, x0, x1, x5, x6 => if x6 < x1 then (if 0 ≤ x6 then (if x6 < (x5.length : Int) then (latchkeyhand18_Draw.l0 k x0 x1 (x5.set (x6 : Int).toNat ((x0 + ((x6) % 256)) % 256)) (wrap64 (x6 + 1))) else (none)) else (none)) else (some x5)
def latchkeyhand18_Draw.f (k : Nat) (a0 : Int) (a1 : Int) : Option (List Int) := if 0 ≤ a1 then (if (a1 : Int).toNat ≤ 281474976710656 then (latchkeyhand18_Draw.l0 k a0 a1 (List.replicate (a1 : Int).toNat 0) 0) else (none)) else (none)
theorem latchkeyhand18_Draw.mono_l : ∀ k, (∀ y0 y1 y2 y3, LeO (latchkeyhand18_Draw.l0 k y0 y1 y2 y3) (latchkeyhand18_Draw.l0 (k + 1) y0 y1 y2 y3))
  | 0 => fun _ _ _ _ r h => by simp [latchkeyhand18_Draw.l0] at h
  | k + 1 => by
    have ih0 := latchkeyhand18_Draw.mono_l k
    · intro y0 y1 y2 y3
      unfold latchkeyhand18_Draw.l0
      repeat' first
      | (with_reducible exact ih0 _ _ _ _)
      | (with_reducible exact LeO.refl _)
      | (with_reducible exact LeO.none _)
      | (with_reducible refine LeO.ite ?_ ?_)
      | (with_reducible refine LeO.bind ?_ (fun _ => ?_))
      | exact ih0 _ _ _ _
      | exact LeO.none _
      | refine LeO.ite ?_ ?_
      | refine LeO.bind ?_ (fun _ => ?_)
theorem latchkeyhand18_Draw.mono : ∀ a0 a1 k, LeO (latchkeyhand18_Draw.f k a0 a1) (latchkeyhand18_Draw.f (k + 1) a0 a1) := by
  intro a0 a1 k
  have ih0 := latchkeyhand18_Draw.mono_l k
  unfold latchkeyhand18_Draw.f
  repeat' first
      | (with_reducible exact ih0 _ _ _ _)
      | (with_reducible exact LeO.refl _)
      | (with_reducible exact LeO.none _)
      | (with_reducible refine LeO.ite ?_ ?_)
      | (with_reducible refine LeO.bind ?_ (fun _ => ?_))
      | exact ih0 _ _ _ _
      | exact LeO.none _
      | refine LeO.ite ?_ ?_
      | refine LeO.bind ?_ (fun _ => ?_)
set_option maxHeartbeats 8000000 in
set_option maxRecDepth 100000 in
theorem latchkeyhand18_Draw.calls (k : Nat) (a0 : Int) (a1 : Int) (r : List Int) (w : World) (h : latchkeyhand18_Draw.f k a0 a1 = some r) :
    Calls Try.prog 10 #[.int .u8 a0, .int .i64 a1] w fun e w' => ∃ v0_ : Value, e = .returned (v0_) ∧ Kd.R (Kd.int .u8) 5 w' w.heap.size (fun _ => True) v0_ r ∧ Below w.heap.size w w' := by
  have HB := Aside0.mk (Below.refl w.heap.size w)
  have H : (if 0 ≤ a1 then (if (a1 : Int).toNat ≤ 281474976710656 then (latchkeyhand18_Draw.l0 k a0 a1 (List.replicate (a1 : Int).toNat 0) 0) else (none)) else (none)) = some r := h
  clear h
  by_cases c3 : 0 ≤ a1
  · rw [if_pos c3] at H
    have c3b0 := eq_true c3
    have c3b1 : decide (0 ≤ a1) = true := decide_eq_true c3
    clear c3
    by_cases c4 : (a1 : Int).toNat ≤ 281474976710656
    · rw [if_pos c4] at H
      have c4b0 := eq_true c4
      have c4b1 : decide ((a1 : Int).toNat ≤ 281474976710656) = true := decide_eq_true c4
      clear c4
      obtain ⟨y111, hy111⟩ : ∃ y_ : List Int, y_ = (List.replicate (a1 : Int).toNat 0) := ⟨_, rfl⟩
      replace H : (latchkeyhand18_Draw.l0 k a0 a1 y111 0) = some r := by first | (rw [hy111]; with_reducible exact H) | (have H2_ := (Option.bind_some _ _).symm.trans H; rw [hy111]; with_reducible exact H2_) | (have H2_ := (Option.bind_some _ _).symm.trans H; with_reducible exact H2_) | with_reducible exact H | (rw [hy111]; exact H) | exact H
      have Ny111 := Aside0.mk hy111
      clear hy111
      have H' := Aside0.mk H
      clear H
      go_enter Try.func10, Try.ntmps10
      go_wp2_with (first | ((with_reducible refine gate_dst (N := 8) rfl ?_); refine Kd.R_make (Kd.int .u8) _ 5 rfl (N := 8) rfl 22 _ _ rfl a1 rfl rfl Try.underlying22 (.int .u8 0) 1 info5 rfl (by decide) (by omega) 0 (ok := fun _ => True) (okp := fun _ => True) rfl (fun _ hk => hk) trivial (of_decide_eq_true (by first | (with_reducible assumption) | assumption)) (Nat.le_trans (Nat.mul_le_mul_right _ (of_decide_eq_true (by first | (with_reducible assumption) | assumption) : a1.toNat ≤ 281474976710656)) (by omega)) (Below.refl _ _) (Nat.le_refl _) ?_; intro v112 w5 ho6 hb hg_ hnew_; clear hg_ hnew_; (first | rw [← Ny111.out] at ho6 | (simp only [Int.reduceToNat] at ho6; rw [← Ny111.out] at ho6)); have n0_ := Aside0.mk (Kd.R_lower ho6 (below_size (by repeat (first | (with_reducible first | exact HB.out | apply below_alloc | apply pw_below_drewN | apply below_drew1) | exact HB.out)))); have n1_ := Aside0.mk (below_step (by repeat (first | (with_reducible first | exact HB.out | apply below_alloc | apply pw_below_drewN | apply below_drew1) | exact HB.out)) hb); clear HB; have HO113 := n0_; have HB := n1_; clear n0_ n1_; clear hb ho6))
      go_loopg [6] k (fun kq v6 w' => ∃ (x5_1 : List Int) (x6_1 : Int), v6 = .int .i64 x6_1 ∧ Aside0 (latchkeyhand18_Draw.l0 kq a0 a1 x5_1 x6_1 = some r) ∧ Aside0 (kq ≤ k) ∧ Aside0 (Kd.R (Kd.int .u8) 5 w' w.heap.size (fun _ => True) v112 x5_1) ∧ Aside0 (Below w.heap.size w w'))
      case atStart => exact ⟨(y111), (0), (by first | rfl | (simp; done) | (simp [*]; done)), H', ⟨Nat.le_refl _⟩, ⟨by (with_reducible repeat (first | apply Kd.R_alloc | apply Kd.R_drewN | apply Kd.R_drew)); exact HO113.out⟩, ⟨by repeat (first | (with_reducible first | exact HB.out | apply below_alloc | apply pw_below_drewN | apply below_drew1) | exact HB.out)⟩⟩
      case round =>
        clear H'
        try clear c1
        try clear p2
        try clear c3
        try clear c3b0
        try clear c3b1
        try clear c4
        try clear c4b0
        try clear c4b1
        obtain ⟨x5_1, x6_1, rfl, HA, HK1, HO_5, HB⟩ := hrel
        cases gk with
        | zero => exact absurd HA.out (by simp [latchkeyhand18_Draw.l0])
        | succ k1 =>
          have H := HA.out
          clear HA
          simp only [latchkeyhand18_Draw.l0] at H
          by_cases c7 : x6_1 < a1
          · rw [if_pos c7] at H
            have c7b0 : decide (x6_1 < a1) = true := decide_eq_true c7
            clear c7
            by_cases c8 : 0 ≤ x6_1
            · rw [if_pos c8] at H
              have c8b0 : decide (0 ≤ x6_1) = true := decide_eq_true c8
              clear c8
              by_cases c9 : x6_1 < (x5_1.length : Int)
              · rw [if_pos c9] at H
                have c9b0 : decide (x6_1 < (x5_1.length : Int)) = true := decide_eq_true c9
                clear c9
                obtain ⟨y114, hy114⟩ : ∃ y_ : List Int, y_ = (x5_1.set (x6_1 : Int).toNat ((a0 + ((x6_1) % 256)) % 256)) := ⟨_, rfl⟩
                replace H : (latchkeyhand18_Draw.l0 k1 a0 a1 y114 (wrap64 (x6_1 + 1))) = some r := by first | (rw [hy114]; with_reducible exact H) | (have H2_ := (Option.bind_some _ _).symm.trans H; rw [hy114]; with_reducible exact H2_) | (have H2_ := (Option.bind_some _ _).symm.trans H; with_reducible exact H2_) | with_reducible exact H | (rw [hy114]; exact H) | exact H
                have Ny114 := Aside0.mk hy114
                clear hy114
                have H' := Aside0.mk H
                clear H
                have p10 : 0 ≤ (x6_1 : Int) := of_decide_eq_true (by first | (with_reducible assumption) | assumption)
                have q10 : (x6_1 : Int) < ((x5_1.length : Int) : Int) := of_decide_eq_true (by first | (with_reducible assumption) | assumption)
                obtain ⟨go10, co10, eo10, gb10, gl10, cl10, HG10⟩ := Kd.R_form HO_5.out (by omega)
                (first | cases eo10 | (injection eo10 with ea_ en_ ec_; (first | subst ea_ | (injection ea_ with ea_; subst ea_)); subst ec_; clear en_))
                have GB10 := Aside0.mk gb10
                have GG10 := Aside0.mk HG10
                clear gb10 gl10 HG10
                obtain ⟨hx10_0, hf10_0⟩ := Kd.R_celln 0 HO_5.out (x6_1 : Int) p10 q10
                replace p10 := eq_true p10
                replace q10 := eq_true q10
                have HP11 := Kd.R_putg HO_5.out (x6_1 : Int) ((a0 + ((x6_1) % 256)) % 256)
                go_wp2_with (first | ((with_reducible refine gate_store (t := 5) (p := 20) rfl ?_); refine store_event (t := 5) (p := 20) (v := ?vo_w12) (w1 := (wr.setCell ⟨go10, (x6_1 : Int).toNat, none⟩ (.int .u8 ((a0 + ((x6_1) % 256)) % 256)))) ?hg ?ho ?hn ?hr ?_; (case ho => rfl); (case hg => rfl); (case hn => rfl); (case hr => first | (go_simp; done) | (go_simp; rfl)); intro w12 hw; have hg : wr.grownBy w12 (some go10) := (by rw [hw]; exact HP11.2); have hp_ : Kd.R (Kd.int .u8) 5 w12 w.heap.size (fun _ => True) (.slice (some ⟨go10, 0, none⟩) x5_1.length co10) y114 := (by rw [hw, Ny114.out]; exact HP11.1); clear HP11; have n0_ := Aside0.mk (hp_); have n1_ := Aside0.mk ((by rw [hw]; exact below_set (HB.out) GB10.out : Below w.heap.size w w12)); clear HO_5; clear HB; have HO_5 := n0_; have HB := n1_; clear n0_ n1_; clear hg hw hp_))
                go_roundg k1
                case measure => have := HK1.out; omega
                case rel => exact ⟨(y114), (wrap64 (x6_1 + 1)), (by first | rfl | (simp; done) | (simp [*]; done)), H', ⟨by have := HK1.out; omega⟩, ⟨by (with_reducible repeat (first | apply Kd.R_alloc | apply Kd.R_drewN | apply Kd.R_drew)); exact HO_5.out⟩, ⟨by repeat (first | (with_reducible first | exact HB.out | apply below_alloc | apply pw_below_drewN | apply below_drew1) | exact HB.out)⟩⟩
              · rw [if_neg c9] at H
                exact absurd H (by simp)
            · rw [if_neg c8] at H
              exact absurd H (by simp)
          · rw [if_neg c7] at H
            have c7b0 : decide (x6_1 < a1) = false := decide_eq_false c7
            clear c7
            obtain rfl := Option.some.inj H
            go_wp2
            go_ret
            exact ⟨_, by first | rfl | (simp [errW_none, errW_some] <;> rfl) | (simp [*, errW_none, errW_some] <;> rfl), by (with_reducible repeat (first | apply Kd.R_alloc | apply Kd.R_drewN | apply Kd.R_drew)); exact HO_5.out, by repeat (first | (with_reducible first | exact HB.out | apply below_alloc | apply pw_below_drewN | apply below_drew1) | exact HB.out)⟩
    · rw [if_neg c4] at H
      exact absurd H (by simp)
  · rw [if_neg c3] at H
    exact absurd H (by simp)

end Go.Proofs.Ytphbpcmncelkhaa.PSessPlays
