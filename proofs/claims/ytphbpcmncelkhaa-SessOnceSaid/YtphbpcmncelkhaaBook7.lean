/- Live of sess and of the reference; New. -/
import Derived.Test.YtphbpcmncelkhaaBook6
set_option linter.unusedVariables false
set_option linter.unusedSimpArgs false
namespace Go.Proofs.Ytphbpcmncelkhaa.Sess
open Go.RowKit Go.Shelf Go.Proofs.YtphbpcmncelkhaaW.PrintWords Go.Proofs.YtphbpcmncelkhaaW.PrintLast Go.Proofs.YtphbpcmncelkhaaW.PrintMore
open Go.Proofs.Ytphbpcmncelkhaa.PSessPlays

def liveS (now : Int) (l : List S34) : Int := (sweepS now l).length
theorem sweepS_take_succ (now : Int) (l : List S34) (k : Nat) (hk : k < l.length) : ((sweepS now (l.take (k + 1))).length : Int) = (sweepS now (l.take k)).length + (if now < (l.getD k z34).f3 then 1 else 0) := by
  unfold sweepS
  rw [List.take_add_one, List.filter_append, List.length_append, List.getD_eq_getElem?_getD, List.getElem?_eq_getElem hk]
  simp only [Option.toList_some, Option.getD_some, List.filter_cons, List.filter_nil]
  by_cases h : now < l[k].f3
  · simp [h]
  · simp [h]
theorem sweepS_take_le (now : Int) (l : List S34) (k : Nat) : ((sweepS now (l.take k)).length : Int) ≤ k := by
  have := List.length_filter_le (fun y : S34 => decide (now < y.f3)) (l.take k)
  have h2 : (l.take k).length ≤ k := by simp; omega
  unfold sweepS
  omega

set_option maxHeartbeats 4000000 in
theorem live_calls (F : Nat → Prop) (g base : Nat) (room life last now : Int) (l : List S34) (w : World) (hB : BookAt w base F g 58 room life last l) (hn : l.length ≤ 140737488355328) :
    Calls Try.prog 16 #[.pointer (some ⟨g, 0, none⟩), .int .u64 now] w fun e w' => e = .returned (.int .i64 (liveS now l)) ∧ Below w.heap.size w w' := by
  obtain ⟨v, hb, hFg, hbg, hR⟩ := hB
  have hlt := blk_lt hb
  have hc : w.cell? ⟨g, 3, none⟩ = some v := (blk_cell hb 3).trans rfl
  rcases row_of_R hR with ⟨rfl, rfl⟩ | ⟨g2, cap, f, rfl, hrow, hcm, hb2, hg2, hM⟩
  · go_enter Try.func16, Try.ntmps16
    go_wp2
    go_loopg [5, 7, 15] 1 (fun gg s5 _ s15 wr => gg = 1 ∧ s5 = .int .i64 0 ∧ s15 = .int .i64 0 ∧ Aside0 (Below w.heap.size w wr))
    case atStart => exact ⟨rfl, rfl, rfl, ⟨Below.refl _ w⟩⟩
    case round =>
      obtain ⟨rfl, rfl, rfl, BW⟩ := hrel
      go_wp2
      go_ret
      exact ⟨rfl, BW.out⟩
  · have he : Aside0 (∀ j, j < l.length → (f j).e = (l.getD j z34).f3) := ⟨fun j hj => (hM j _ (getD_of hj)).2.2.1⟩
    have HR := Aside0.mk hrow
    obtain ⟨n, hnn⟩ : ∃ n, n = l.length := ⟨_, rfl⟩
    have HN := Aside0.mk hnn
    rw [← hnn] at hn hc
    have hgl := hrow.lt
    clear hR hb hrow hM hnn
    go_enter Try.func16, Try.ntmps16
    go_wp2
    go_loopg [5, 7, 15] n (fun gg s5 _ s15 wr => ∃ k : Nat, k ≤ n ∧ n - k ≤ gg ∧ s15 = .int .i64 k ∧ s5 = .int .i64 (sweepS now (l.take k)).length ∧ Aside0 (Below w.heap.size w wr))
    case atStart => exact ⟨0, Nat.zero_le _, by omega, rfl, rfl, ⟨Below.refl _ w⟩⟩
    case round =>
      obtain ⟨k, hk, hgg, rfl, rfl, BW⟩ := hrel
      by_cases hlt2 : k < n
      · have hltz : (k : Int) < (n : Int) := by omega
        obtain ⟨l0, l1, l2, l3, l4, l5⟩ := (HR.out.blk (BW.out.block g2 hgl)).cell k (by have := HN.out; omega)
        have hkl : k < l.length := by have := HN.out; omega
        have HS := Aside0.mk (sweepS_take_succ now l k hkl)
        have hle := sweepS_take_le now l k
        have hx3 := he.out k hkl
        rw [hx3] at l3
        have HX3 := Aside0.mk hx3
        clear hx3
        generalize f k = x at l0 l1 l2 l4 l5
        generalize (l.getD k z34).f3 = y at l3 HS
        obtain ⟨m, hm⟩ : ∃ m : Int, m = ((sweepS now (l.take k)).length : Int) := ⟨_, rfl⟩
        have hm0 : 0 ≤ m := by omega
        have hwr : IntKind.i64.wrap (m + 1) = m + 1 := by rw [IntKind.wrap_i64]; omega
        rw [← hm] at HS hle ⊢
        clear hm
        by_cases hq : y > now
        · have hqb : decide (now < y) = true := decide_eq_true hq
          go_wp2
          go_roundg (n - (k + 1))
          case measure => omega
          case rel =>
            refine ⟨k + 1, by omega, by omega, by go_num, ?_, ⟨below_alloc BW.out _⟩⟩
            rw [HS.out, if_pos hq]
        · have hqb : decide (now < y) = false := decide_eq_false hq
          go_wp2
          go_roundg (n - (k + 1))
          case measure => omega
          case rel =>
            refine ⟨k + 1, by omega, by omega, by go_num, ?_, ⟨below_alloc BW.out _⟩⟩
            rw [HS.out, if_neg (by omega), Int.add_zero]
      · have hltz : ¬ (k : Int) < (n : Int) := by omega
        have : k = n := by omega
        subst this
        go_wp2
        go_ret
        refine ⟨?_, BW.out⟩
        rw [HN.out, List.take_length]
        rfl

set_option maxHeartbeats 4000000 in
theorem rlive_calls (F : Nat → Prop) (g base : Nat) (room life last now : Int) (l : List S34) (w : World) (hB : BookAt w base F g 45 room life last l) (hn : l.length ≤ 140737488355328) :
    Calls Try.prog 17 #[.pointer (some ⟨g, 0, none⟩), .int .u64 now] w fun e w' => e = .returned (.int .i64 (liveS now l)) ∧ Below w.heap.size w w' := by
  obtain ⟨v, hb, hFg, hbg, hR⟩ := hB
  have hc : w.cell? ⟨g, 3, none⟩ = some v := (blk_cell hb 3).trans rfl
  rcases row_of_R hR with ⟨rfl, rfl⟩ | ⟨g2, cap, f, rfl, hrow, hcm, hb2, hg2, hM⟩
  · go_enter Try.func17, Try.ntmps17
    go_wp2
    go_loopg [5, 6] 1 (fun gg s5 s6 wr => gg = 1 ∧ s5 = .int .i64 0 ∧ s6 = .int .i64 0 ∧ wr = w)
    case atStart => exact ⟨rfl, rfl, rfl, rfl⟩
    case round =>
      obtain ⟨rfl, rfl, rfl, rfl⟩ := hrel
      go_wp2
      go_ret
      exact ⟨rfl, Below.refl _ _⟩
  · have he : Aside0 (∀ j, j < l.length → (f j).e = (l.getD j z34).f3) := ⟨fun j hj => (hM j _ (getD_of hj)).2.2.1⟩
    have HR := Aside0.mk hrow
    obtain ⟨n, hnn⟩ : ∃ n, n = l.length := ⟨_, rfl⟩
    have HN := Aside0.mk hnn
    rw [← hnn] at hn hc
    clear hR hb hrow hM hnn
    go_enter Try.func17, Try.ntmps17
    go_wp2
    go_loopg [5, 6] n (fun gg s5 s6 wr => ∃ k : Nat, k ≤ n ∧ n - k ≤ gg ∧ s6 = .int .i64 k ∧ s5 = .int .i64 (sweepS now (l.take k)).length ∧ wr = w)
    case atStart => exact ⟨0, Nat.zero_le _, by omega, rfl, rfl, rfl⟩
    case round =>
      obtain ⟨k, hk, hgg, rfl, rfl, rfl⟩ := hrel
      by_cases hlt2 : k < n
      · have hltz : (k : Int) < (n : Int) := by omega
        obtain ⟨l0, l1, l2, l3, l4, l5⟩ := HR.out.cell k (by have := HN.out; omega)
        have hkl : k < l.length := by have := HN.out; omega
        have HS := Aside0.mk (sweepS_take_succ now l k hkl)
        have hle := sweepS_take_le now l k
        have hx3 := he.out k hkl
        rw [hx3] at l3
        have HX3 := Aside0.mk hx3
        clear hx3
        generalize (l.getD k z34).f3 = y at l3 HS
        obtain ⟨m, hm⟩ : ∃ m : Int, m = ((sweepS now (l.take k)).length : Int) := ⟨_, rfl⟩
        have hm0 : 0 ≤ m := by omega
        have hwr : IntKind.i64.wrap (m + 1) = m + 1 := by rw [IntKind.wrap_i64]; omega
        rw [← hm] at HS hle ⊢
        clear hm
        by_cases hq : y > now
        · have hqb : decide (now < y) = true := decide_eq_true hq
          go_wp2
          go_roundg (n - (k + 1))
          case measure => omega
          case rel =>
            refine ⟨k + 1, by omega, by omega, by go_num, ?_, rfl⟩
            rw [HS.out, if_pos hq]
        · have hqb : decide (now < y) = false := decide_eq_false hq
          go_wp2
          go_roundg (n - (k + 1))
          case measure => omega
          case rel =>
            refine ⟨k + 1, by omega, by omega, by go_num, ?_, rfl⟩
            rw [HS.out, if_neg (by omega), Int.add_zero]
      · have hltz : ¬ (k : Int) < (n : Int) := by omega
        have : k = n := by omega
        subst this
        go_wp2
        go_ret
        refine ⟨?_, Below.refl _ _⟩
        rw [HN.out, List.take_length]
        rfl

theorem new_calls (room life last : Int) (w : World) :
    Calls Try.prog 8 #[.int .i64 room, .int .u64 life, .int .u64 last] w fun e w' => e = .returned (.pointer (some ⟨w.heap.size, 0, none⟩)) ∧ w' = w.alloc (.cells #[.int .i64 room, .int .u64 life, .int .u64 last, .slice none 0 0] 58) := by
  go_enter Try.func8, Try.ntmps8
  go_wp2
  go_ret
  exact ⟨rfl, rfl⟩
theorem bookAt_new (T : Nat) (room life last : Int) (w : World) (base : Nat) (hb : base ≤ w.heap.size) : BookAt (w.alloc (.cells #[.int .i64 room, .int .u64 life, .int .u64 last, .slice none 0 0] T)) base (fun k => k = w.heap.size) w.heap.size T room life last [] :=
  ⟨_, blk_new _ _, rfl, hb, Kd.R_nil _ _ _ _ _⟩

end Go.Proofs.Ytphbpcmncelkhaa.Sess
