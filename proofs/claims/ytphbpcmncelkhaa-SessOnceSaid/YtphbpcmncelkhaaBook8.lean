/- Begin of sess: the paths that refuse. -/
import Derived.Test.YtphbpcmncelkhaaBook7
set_option linter.unusedVariables false
set_option linter.unusedSimpArgs false
namespace Go.Proofs.Ytphbpcmncelkhaa.Sess
open Go.RowKit Go.Shelf Go.Proofs.YtphbpcmncelkhaaW.PrintWords Go.Proofs.YtphbpcmncelkhaaW.PrintLast Go.Proofs.YtphbpcmncelkhaaW.PrintMore
open Go.Proofs.Ytphbpcmncelkhaa.PSessPlays

def sameD (x y : List Int) : Bool := (strOfNums x).toList == (strOfNums y).toList
def newS (s : S34) (h e : Int) : S34 := ⟨h, s.f1, s.f2, e, s.f4, s.f5⟩
/-- What Begin does: the handle, the error's number, the last handle, the list. -/
def beginS (room life last : Int) (l : List S34) (s : S34) (now : Int) : Int × Int × Int × List S34 :=
  if s.f1.toList.isEmpty = true ∨ 64 < (s.f1.size : Int) then (0, 89, last, sweepS now l)
  else if (s.f2.length : Int) < 16 ∨ 64 < (s.f2.length : Int) then (0, 81, last, sweepS now l)
  else if (sweepS now l).any (fun y => sameD y.f2 s.f2) = true then (0, 82, last, sweepS now l)
  else if room ≤ (sweepS now l).length then (0, 83, last, sweepS now l)
  else if last = 18446744073709551615 then (0, 84, last, sweepS now l)
  else (last + 1, 0, last + 1, sweepS now l ++ [newS s (last + 1) (endsS life now)])

theorem BookAt.step {w w' : World} {base g T : Nat} {F : Nat → Prop} {room life last : Int} {l : List S34} (h : BookAt w base F g T room life last l) (hk : ∀ k, F k → k < w.heap.size → w'.heap[k]? = w.heap[k]?) : BookAt w' base F g T room life last l := by
  obtain ⟨v, hb, hFg, hbg, hR⟩ := h
  exact ⟨v, (hk g hFg (blk_lt hb)).trans hb, hFg, hbg, Kd.R_step hR (fun k hok hlt => hk k hok.1 hlt)⟩
theorem BookAt.mono {w : World} {base g T : Nat} {F F' : Nat → Prop} {room life last : Int} {l : List S34} (h : BookAt w base F g T room life last l) (hk : ∀ k, F k → F' k) : BookAt w base F' g T room life last l := by
  obtain ⟨v, hb, hFg, hbg, hR⟩ := h
  exact ⟨v, hb, hk g hFg, hbg, Kd.R_mono hR (fun k hok => ⟨hk k hok.1, hok.2⟩)⟩

theorem idxP_any (p : S34 → Bool) (xs : List S34) : decide (0 ≤ idxP p xs) = xs.any p := by
  unfold idxP
  rcases idxq_cases (fun j => p (xs.getD j z34)) xs.length with ⟨k, hk, h1, h2⟩ | h
  · rw [idxq_hit hk h1 h2]
    have : xs.any p = true := List.any_eq_true.2 ⟨xs.getD k z34, List.mem_of_getElem? (getD_of hk), h1⟩
    rw [this]
    exact decide_eq_true (by omega)
  · rw [idxq_miss h]
    have : xs.any p = false := by
      rw [List.any_eq_false]
      intro y hy
      obtain ⟨j, hj, rfl⟩ := List.mem_iff_getElem.1 hy
      have := h j hj
      rw [List.getD_eq_getElem?_getD, List.getElem?_eq_getElem hj] at this
      simpa using this
    rw [this]
    rfl

theorem contains_R (B : Nat) (h0 u0 e0 r0 a0 : Value) (A2 : Option Addr) (c2 : Nat) (d : List Int) {v : Value} {xs : List S34} {w : World} {base : Nat} {ok : Nat → Prop}
    (h : k34.R 34 w base ok v xs) (hn : xs.length ≤ 140737488355328) (hB : w.heap[B]? = some (.cells #[h0, u0, .slice A2 d.length c2, e0, r0, a0] 34 (0, 0))) (hC : Kd.C (Kd.int .u8) w A2 d.length d) :
    Calls Try.prog 19 #[v, .func (.func 20) #[] #[.pointer (some ⟨B, 0, none⟩)]] w fun e w' => e = .returned (.bool (xs.any fun y => sameD y.f2 d)) ∧ Below w.heap.size w w' := by
  have eg : ∀ args w, (callFunc 20 args).run Try.prog w = .ok (.enter 20 args) w := enters_of Try.func20 (by kernel_rfl) rfl
  rw [← idxP_any]
  refine containsFunc_calls _ _ _ w (index_R 20 #[.pointer (some ⟨B, 0, none⟩)] eg (fun y => sameD y.f2 d) h hn (fun W x y hy hs hW => ?_))
  obtain ⟨e0', e1, e3, e4, e5, e6, e7⟩ := hs
  obtain ⟨A1, c1, hA, hc1, hC1⟩ := Kd.R_reads e7
  injection hA with hA1 hA2 hA3
  rw [hA2, hA1]
  refine (begin1 x.h x.e (.string x.u) (.bool x.r) (.bool x.a) A1 x.dc y.f2 A2 c2 d h0 u0 e0 r0 a0 B W ((hW.block B (blk_lt hB)).trans hB) hC1 (Kd.C_below hC hW)).mono ?_
  rintro e w' ⟨rfl, rfl⟩
  exact ⟨rfl, below_alloc hW _⟩


theorem four {w : World} {B t : Nat} {a b c d : Value} (h : w.heap[B]? = some (.cells #[a, b, c, d] t (0, 0))) :
    w.cell? ⟨B, 0, none⟩ = some a ∧ w.cell? ⟨B, 1, none⟩ = some b ∧ w.cell? ⟨B, 2, none⟩ = some c ∧ w.cell? ⟨B, 3, none⟩ = some d :=
  ⟨(blk_cell h 0).trans rfl, (blk_cell h 1).trans rfl, (blk_cell h 2).trans rfl, (blk_cell h 3).trans rfl⟩
theorem swept_calls (F okS : Nat → Prop) (g base baseS : Nat) (room life last now : Int) (l : List S34) (xh xe : Int) (xA : Option Addr) (xc : Nat) (xr xa : Bool) (s : S34) (w : World) (hB : BookAt w base F g 58 room life last l) (hF : ∀ k, F k → k < w.heap.size) (hn : l.length ≤ 1000000)
    (hR : (Kd.int .u8).R 5 w baseS okS (.slice xA s.f2.length xc) s.f2) (hO : ∀ k, okS k → ¬ F k) :
    Calls Try.prog 18 #[.pointer (some ⟨g, 0, none⟩), .int .u64 now] (w.alloc (.cells #[.int .u64 xh, .string s.f1, .slice xA s.f2.length xc, .int .u64 xe, .bool xr, .bool xa] 34)) fun e w2 => e = .returned (.tuple #[]) ∧
      ∃ A2 cc2, w2.cell? ⟨g, 0, none⟩ = some (.int .i64 room) ∧ w2.cell? ⟨g, 1, none⟩ = some (.int .u64 life) ∧ w2.cell? ⟨g, 2, none⟩ = some (.int .u64 last) ∧ w2.cell? ⟨g, 3, none⟩ = some (.slice A2 (sweepS now l).length cc2) ∧
        w2.cell? ⟨w.heap.size, 0, none⟩ = some (.int .u64 xh) ∧ w2.cell? ⟨w.heap.size, 1, none⟩ = some (.string s.f1) ∧ w2.cell? ⟨w.heap.size, 2, none⟩ = some (.slice xA s.f2.length xc) ∧ w2.cell? ⟨w.heap.size, 3, none⟩ = some (.int .u64 xe) ∧
        Aside0 (w2.heap[w.heap.size]? = some (.cells #[.int .u64 xh, .string s.f1, .slice xA s.f2.length xc, .int .u64 xe, .bool xr, .bool xa] 34 (0, 0))) ∧
        Aside0 (w2.heap[g]? = some (.cells #[.int .i64 room, .int .u64 life, .int .u64 last, .slice A2 (sweepS now l).length cc2] 58 (0, 0))) ∧
        Aside0 (k34.R 34 w2 base (fun k => F k ∧ k ≠ g) (.slice A2 (sweepS now l).length cc2) (sweepS now l)) ∧ Aside0 (Kd.C (Kd.int .u8) w2 xA s.f2.length s.f2) ∧ Aside0 (F g ∧ base ≤ g) ∧ Aside0 ((Kd.int .u8).R 5 w2 baseS okS (.slice xA s.f2.length xc) s.f2) ∧ Aside0 (Ft F w w2) := by
  have hBel : Below w.heap.size w (w.alloc (.cells #[.int .u64 xh, .string s.f1, .slice xA s.f2.length xc, .int .u64 xe, .bool xr, .bool xa] 34)) := below_alloc (Below.refl _ _) _
  refine (sweep_calls F g base room life last now l _ (hB.step (fun k _ hk => hBel.block k hk)) (by omega)).mono ?_
  rintro e w2 ⟨rfl, ⟨v2, b2, hFg, hbg, hR2⟩, hf2⟩
  have hsix := hf2.blk (blk_new w _) (fun h => absurd (hF _ h) (Nat.lt_irrefl _))
  obtain ⟨q0, q1, q2, q3, q4, q5, q6⟩ := six hsix
  obtain ⟨A2, cc2, rfl⟩ := Kd.R_slice hR2
  obtain ⟨A7, c7, hA7, hc7, hC7⟩ := Kd.R_reads (Kd.R_step (Kd.R_below hR hBel) (fun k hk hlt => hf2.block k hlt (hO k hk)))
  injection hA7 with hA71 hA72 hA73
  rw [← hA71] at hC7
  exact ⟨rfl, A2, cc2, (blk_cell b2 0).trans rfl, (blk_cell b2 1).trans rfl, (blk_cell b2 2).trans rfl, (blk_cell b2 3).trans rfl, q0, q1, q2, q3, ⟨hsix⟩, ⟨b2⟩, ⟨hR2⟩, ⟨hC7⟩, ⟨hFg, hbg⟩, ⟨Kd.R_step (Kd.R_below hR hBel) (fun k hk hlt => hf2.block k hlt (hO k hk))⟩, ⟨(Ft.of_below hBel F).trans hf2 (fun _ h => .inl h)⟩⟩

set_option maxHeartbeats 4000000 in
theorem begin_u1 (F okS : Nat → Prop) (g base baseS : Nat) (room life last now : Int) (l : List S34) (x : Cs) (s : S34) (w : World) (hB : BookAt w base F g 58 room life last l) (hF : ∀ k, F k → k < w.heap.size) (hn : l.length ≤ 1000000)
    (hS : SessM w baseS okS x s) (hO : ∀ k, okS k → ¬ F k)
    (c1 : s.f1.toList.isEmpty = true) :
    Calls Try.prog 9 #[.pointer (some ⟨g, 0, none⟩), x.agg, .int .u64 now] w fun e w' => e = .returned (.tuple #[.int .u64 0, .int .i64 89]) ∧ BookAt w' base F g 58 room life last (sweepS now l) ∧ Ft F w w' := by
  obtain ⟨xh, xe, xu, xA, xn, xc, xr, xa⟩ := x
  obtain ⟨k0, k1, k3, k4, k5, k6, k7⟩ := hS
  simp only at k0 k1 k3 k4 k5 k6 k7
  subst k1 k6
  have hsw := swept_calls F okS g base baseS room life last now l xh xe xA xc xr xa s w hB hF hn k7 hO
  have hl1 : (sweepS now l).length ≤ 140737488355328 := Nat.le_trans (List.length_filter_le _ _) (by omega)
  clear k0 k3 k4 k5 k7 hB hF hO
  generalize sweepS now l = l1 at *
  go_enter Try.func9, Try.ntmps9
  go_wp2_with (go_at_call 18; refine hsw.mono ?_; rintro e w2 ⟨rfl, A2, cc2, d0, d1, d2, d3, q0, q1, q2, q3, HSIX, HBK, HR2, HC7, HFg, HK2, HF2⟩)
  go_ret2
  exact ⟨rfl, ⟨_, HBK.out, HFg.out.1, HFg.out.2, HR2.out⟩, HF2.out⟩

set_option maxHeartbeats 4000000 in
theorem begin_u2 (F okS : Nat → Prop) (g base baseS : Nat) (room life last now : Int) (l : List S34) (x : Cs) (s : S34) (w : World) (hB : BookAt w base F g 58 room life last l) (hF : ∀ k, F k → k < w.heap.size) (hn : l.length ≤ 1000000)
    (hS : SessM w baseS okS x s) (hO : ∀ k, okS k → ¬ F k)
    (c1 : s.f1.toList.isEmpty = false) (c2 : 64 < (s.f1.size : Int)) :
    Calls Try.prog 9 #[.pointer (some ⟨g, 0, none⟩), x.agg, .int .u64 now] w fun e w' => e = .returned (.tuple #[.int .u64 0, .int .i64 89]) ∧ BookAt w' base F g 58 room life last (sweepS now l) ∧ Ft F w w' := by
  obtain ⟨xh, xe, xu, xA, xn, xc, xr, xa⟩ := x
  obtain ⟨k0, k1, k3, k4, k5, k6, k7⟩ := hS
  simp only at k0 k1 k3 k4 k5 k6 k7
  subst k1 k6
  have hsw := swept_calls F okS g base baseS room life last now l xh xe xA xc xr xa s w hB hF hn k7 hO
  have hl1 : (sweepS now l).length ≤ 140737488355328 := Nat.le_trans (List.length_filter_le _ _) (by omega)
  clear k0 k3 k4 k5 k7 hB hF hO
  generalize sweepS now l = l1 at *
  go_enter Try.func9, Try.ntmps9
  go_wp2_with (go_at_call 18; refine hsw.mono ?_; rintro e w2 ⟨rfl, A2, cc2, d0, d1, d2, d3, q0, q1, q2, q3, HSIX, HBK, HR2, HC7, HFg, HK2, HF2⟩)
  go_ret2
  exact ⟨rfl, ⟨_, HBK.out, HFg.out.1, HFg.out.2, HR2.out⟩, HF2.out⟩

set_option maxHeartbeats 4000000 in
theorem begin_d1 (F okS : Nat → Prop) (g base baseS : Nat) (room life last now : Int) (l : List S34) (x : Cs) (s : S34) (w : World) (hB : BookAt w base F g 58 room life last l) (hF : ∀ k, F k → k < w.heap.size) (hn : l.length ≤ 1000000)
    (hS : SessM w baseS okS x s) (hO : ∀ k, okS k → ¬ F k)
    (c1 : s.f1.toList.isEmpty = false) (c2 : ¬ 64 < (s.f1.size : Int)) (c3 : (s.f2.length : Int) < 16) :
    Calls Try.prog 9 #[.pointer (some ⟨g, 0, none⟩), x.agg, .int .u64 now] w fun e w' => e = .returned (.tuple #[.int .u64 0, .int .i64 81]) ∧ BookAt w' base F g 58 room life last (sweepS now l) ∧ Ft F w w' := by
  obtain ⟨xh, xe, xu, xA, xn, xc, xr, xa⟩ := x
  obtain ⟨k0, k1, k3, k4, k5, k6, k7⟩ := hS
  simp only at k0 k1 k3 k4 k5 k6 k7
  subst k1 k6
  have hsw := swept_calls F okS g base baseS room life last now l xh xe xA xc xr xa s w hB hF hn k7 hO
  have hl1 : (sweepS now l).length ≤ 140737488355328 := Nat.le_trans (List.length_filter_le _ _) (by omega)
  clear k0 k3 k4 k5 k7 hB hF hO
  generalize sweepS now l = l1 at *
  go_enter Try.func9, Try.ntmps9
  go_wp2_with (go_at_call 18; refine hsw.mono ?_; rintro e w2 ⟨rfl, A2, cc2, d0, d1, d2, d3, q0, q1, q2, q3, HSIX, HBK, HR2, HC7, HFg, HK2, HF2⟩)
  go_ret2
  exact ⟨rfl, ⟨_, HBK.out, HFg.out.1, HFg.out.2, HR2.out⟩, HF2.out⟩

set_option maxHeartbeats 4000000 in
theorem begin_d2 (F okS : Nat → Prop) (g base baseS : Nat) (room life last now : Int) (l : List S34) (x : Cs) (s : S34) (w : World) (hB : BookAt w base F g 58 room life last l) (hF : ∀ k, F k → k < w.heap.size) (hn : l.length ≤ 1000000)
    (hS : SessM w baseS okS x s) (hO : ∀ k, okS k → ¬ F k)
    (c1 : s.f1.toList.isEmpty = false) (c2 : ¬ 64 < (s.f1.size : Int)) (c3 : ¬ (s.f2.length : Int) < 16) (c4 : 64 < (s.f2.length : Int)) :
    Calls Try.prog 9 #[.pointer (some ⟨g, 0, none⟩), x.agg, .int .u64 now] w fun e w' => e = .returned (.tuple #[.int .u64 0, .int .i64 81]) ∧ BookAt w' base F g 58 room life last (sweepS now l) ∧ Ft F w w' := by
  obtain ⟨xh, xe, xu, xA, xn, xc, xr, xa⟩ := x
  obtain ⟨k0, k1, k3, k4, k5, k6, k7⟩ := hS
  simp only at k0 k1 k3 k4 k5 k6 k7
  subst k1 k6
  have hsw := swept_calls F okS g base baseS room life last now l xh xe xA xc xr xa s w hB hF hn k7 hO
  have hl1 : (sweepS now l).length ≤ 140737488355328 := Nat.le_trans (List.length_filter_le _ _) (by omega)
  clear k0 k3 k4 k5 k7 hB hF hO
  generalize sweepS now l = l1 at *
  go_enter Try.func9, Try.ntmps9
  go_wp2_with (go_at_call 18; refine hsw.mono ?_; rintro e w2 ⟨rfl, A2, cc2, d0, d1, d2, d3, q0, q1, q2, q3, HSIX, HBK, HR2, HC7, HFg, HK2, HF2⟩)
  go_ret2
  exact ⟨rfl, ⟨_, HBK.out, HFg.out.1, HFg.out.2, HR2.out⟩, HF2.out⟩

set_option maxHeartbeats 4000000 in
theorem begin_live (F okS : Nat → Prop) (g base baseS : Nat) (room life last now : Int) (l : List S34) (x : Cs) (s : S34) (w : World) (hB : BookAt w base F g 58 room life last l) (hF : ∀ k, F k → k < w.heap.size) (hn : l.length ≤ 1000000)
    (hS : SessM w baseS okS x s) (hO : ∀ k, okS k → ¬ F k)
    (c1 : s.f1.toList.isEmpty = false) (c2 : ¬ 64 < (s.f1.size : Int)) (c3 : ¬ (s.f2.length : Int) < 16) (c4 : ¬ 64 < (s.f2.length : Int)) (hany : ((sweepS now l).any fun y => sameD y.f2 s.f2) = true) :
    Calls Try.prog 9 #[.pointer (some ⟨g, 0, none⟩), x.agg, .int .u64 now] w fun e w' => e = .returned (.tuple #[.int .u64 0, .int .i64 82]) ∧ BookAt w' base F g 58 room life last (sweepS now l) ∧ Ft F w w' := by
  obtain ⟨xh, xe, xu, xA, xn, xc, xr, xa⟩ := x
  obtain ⟨k0, k1, k3, k4, k5, k6, k7⟩ := hS
  simp only at k0 k1 k3 k4 k5 k6 k7
  subst k1 k6
  have hsw := swept_calls F okS g base baseS room life last now l xh xe xA xc xr xa s w hB hF hn k7 hO
  have hl1 : (sweepS now l).length ≤ 140737488355328 := Nat.le_trans (List.length_filter_le _ _) (by omega)
  clear k0 k3 k4 k5 k7 hB hF hO
  generalize sweepS now l = l1 at *
  go_enter Try.func9, Try.ntmps9
  go_wp2_with (first | (go_at_call 18; refine hsw.mono ?_; rintro e w2 ⟨rfl, A2, cc2, d0, d1, d2, d3, q0, q1, q2, q3, HSIX, HBK, HR2, HC7, HFg, HK2, HF2⟩) | (go_at_call 19; refine (contains_R w.heap.size _ _ _ _ _ xA xc s.f2 HR2.out hl1 HSIX.out HC7.out).mono ?_; rw [hany]; rintro e w4 ⟨rfl, hb4⟩; obtain ⟨d40, d41, d42, d43⟩ := four ((hb4.block g (blk_lt HBK.out)).trans HBK.out); have HB4 := Aside0.mk hb4; clear hb4))
  go_ret2
  exact ⟨rfl, BookAt.step (w := w2) ⟨_, HBK.out, HFg.out.1, HFg.out.2, HR2.out⟩ (fun k _ hk => HB4.out.block k hk), HF2.out.trans (Ft.of_below HB4.out (fun _ => False)) (fun _ h => h.elim)⟩

set_option maxHeartbeats 4000000 in
theorem begin_full (F okS : Nat → Prop) (g base baseS : Nat) (room life last now : Int) (l : List S34) (x : Cs) (s : S34) (w : World) (hB : BookAt w base F g 58 room life last l) (hF : ∀ k, F k → k < w.heap.size) (hn : l.length ≤ 1000000)
    (hS : SessM w baseS okS x s) (hO : ∀ k, okS k → ¬ F k)
    (c1 : s.f1.toList.isEmpty = false) (c2 : ¬ 64 < (s.f1.size : Int)) (c3 : ¬ (s.f2.length : Int) < 16) (c4 : ¬ 64 < (s.f2.length : Int)) (hany : ((sweepS now l).any fun y => sameD y.f2 s.f2) = false) (c5 : room ≤ (sweepS now l).length) :
    Calls Try.prog 9 #[.pointer (some ⟨g, 0, none⟩), x.agg, .int .u64 now] w fun e w' => e = .returned (.tuple #[.int .u64 0, .int .i64 83]) ∧ BookAt w' base F g 58 room life last (sweepS now l) ∧ Ft F w w' := by
  obtain ⟨xh, xe, xu, xA, xn, xc, xr, xa⟩ := x
  obtain ⟨k0, k1, k3, k4, k5, k6, k7⟩ := hS
  simp only at k0 k1 k3 k4 k5 k6 k7
  subst k1 k6
  have hsw := swept_calls F okS g base baseS room life last now l xh xe xA xc xr xa s w hB hF hn k7 hO
  have hl1 : (sweepS now l).length ≤ 140737488355328 := Nat.le_trans (List.length_filter_le _ _) (by omega)
  clear k0 k3 k4 k5 k7 hB hF hO
  generalize sweepS now l = l1 at *
  go_enter Try.func9, Try.ntmps9
  go_wp2_with (first | (go_at_call 18; refine hsw.mono ?_; rintro e w2 ⟨rfl, A2, cc2, d0, d1, d2, d3, q0, q1, q2, q3, HSIX, HBK, HR2, HC7, HFg, HK2, HF2⟩) | (go_at_call 19; refine (contains_R w.heap.size _ _ _ _ _ xA xc s.f2 HR2.out hl1 HSIX.out HC7.out).mono ?_; rw [hany]; rintro e w4 ⟨rfl, hb4⟩; obtain ⟨d40, d41, d42, d43⟩ := four ((hb4.block g (blk_lt HBK.out)).trans HBK.out); have HB4 := Aside0.mk hb4; clear hb4))
  go_quiet (fail)
  go_wp2
  go_ret2
  exact ⟨rfl, BookAt.step (w := w2) ⟨_, HBK.out, HFg.out.1, HFg.out.2, HR2.out⟩ (fun k _ hk => HB4.out.block k hk), (HF2.out.trans (Ft.of_below HB4.out (fun _ => False)) (fun _ h => h.elim)).drewN _⟩

set_option maxHeartbeats 4000000 in
theorem begin_last (F okS : Nat → Prop) (g base baseS : Nat) (room life last now : Int) (l : List S34) (x : Cs) (s : S34) (w : World) (hB : BookAt w base F g 58 room life last l) (hF : ∀ k, F k → k < w.heap.size) (hn : l.length ≤ 1000000)
    (hS : SessM w baseS okS x s) (hO : ∀ k, okS k → ¬ F k)
    (c1 : s.f1.toList.isEmpty = false) (c2 : ¬ 64 < (s.f1.size : Int)) (c3 : ¬ (s.f2.length : Int) < 16) (c4 : ¬ 64 < (s.f2.length : Int)) (hany : ((sweepS now l).any fun y => sameD y.f2 s.f2) = false) (c5 : ¬ room ≤ (sweepS now l).length) (c6 : last = 18446744073709551615) :
    Calls Try.prog 9 #[.pointer (some ⟨g, 0, none⟩), x.agg, .int .u64 now] w fun e w' => e = .returned (.tuple #[.int .u64 0, .int .i64 84]) ∧ BookAt w' base F g 58 room life last (sweepS now l) ∧ Ft F w w' := by
  obtain ⟨xh, xe, xu, xA, xn, xc, xr, xa⟩ := x
  obtain ⟨k0, k1, k3, k4, k5, k6, k7⟩ := hS
  simp only at k0 k1 k3 k4 k5 k6 k7
  subst k1 k6
  have hsw := swept_calls F okS g base baseS room life last now l xh xe xA xc xr xa s w hB hF hn k7 hO
  have hl1 : (sweepS now l).length ≤ 140737488355328 := Nat.le_trans (List.length_filter_le _ _) (by omega)
  clear k0 k3 k4 k5 k7 hB hF hO
  generalize sweepS now l = l1 at *
  subst c6
  go_enter Try.func9, Try.ntmps9
  go_wp2_with (first | (go_at_call 18; refine hsw.mono ?_; rintro e w2 ⟨rfl, A2, cc2, d0, d1, d2, d3, q0, q1, q2, q3, HSIX, HBK, HR2, HC7, HFg, HK2, HF2⟩) | (go_at_call 19; refine (contains_R w.heap.size _ _ _ _ _ xA xc s.f2 HR2.out hl1 HSIX.out HC7.out).mono ?_; rw [hany]; rintro e w4 ⟨rfl, hb4⟩; obtain ⟨d40, d41, d42, d43⟩ := four ((hb4.block g (blk_lt HBK.out)).trans HBK.out); have HB4 := Aside0.mk hb4; clear hb4))
  go_quiet (fail)
  go_wp2
  go_ret2
  exact ⟨rfl, BookAt.step (w := w2) ⟨_, HBK.out, HFg.out.1, HFg.out.2, HR2.out⟩ (fun k _ hk => HB4.out.block k hk), (HF2.out.trans (Ft.of_below HB4.out (fun _ => False)) (fun _ h => h.elim)).drewN _⟩

end Go.Proofs.Ytphbpcmncelkhaa.Sess
