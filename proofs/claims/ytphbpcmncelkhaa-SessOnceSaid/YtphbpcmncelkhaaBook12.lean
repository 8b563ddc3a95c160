/- Awake of the statements of sess. -/
import Derived.Test.YtphbpcmncelkhaaBook11
set_option linter.unusedVariables false
set_option linter.unusedSimpArgs false
namespace Go.Proofs.Ytphbpcmncelkhaa.Sess
open Go.RowKit Go.Shelf Go.Proofs.YtphbpcmncelkhaaW.PrintWords Go.Proofs.YtphbpcmncelkhaaW.PrintLast Go.Proofs.YtphbpcmncelkhaaW.PrintMore
open Go.Proofs.Ytphbpcmncelkhaa.PSessPlays

def s0 : S34 := ⟨0, ⟨#[117]⟩, List.replicate 16 0, 0, false, false⟩
theorem begin0 : beginS 1 10 0 [] s0 5 = (1, 0, 1, [newS s0 1 15]) := by
  unfold beginS
  rw [if_neg (by decide +kernel), if_neg (by decide +kernel), if_neg (by decide +kernel), if_neg (by decide +kernel), if_neg (by decide +kernel)]
  rfl
theorem idx1 (h : Int) (y : S34) (l : List S34) (hy : (y.f0 == h) = true) : idxP (fun y => y.f0 == h) (y :: l) = 0 := idxq_hit (k := 0) (by simp) hy (fun j hj => absurd hj (Nat.not_lt_zero _))
theorem take0 : takeS 1 14 [newS s0 1 15] = (newS s0 1 15, 0, []) := by
  unfold takeS
  rw [idx1 1 (newS s0 1 15) [] rfl]
  rfl
theorem take00 : takeS 1 14 [] = (z34, 87, []) := by rfl

theorem BookAt.bound {w : World} {base g T : Nat} {F : Nat → Prop} {room life last : Int} {l : List S34} (h : BookAt w base F g T room life last l) : BookAt w base (fun k => F k ∧ k < w.heap.size) g T room life last l := by
  obtain ⟨v, hb, hFg, hbg, hR⟩ := h
  exact ⟨v, hb, ⟨hFg, blk_lt hb⟩, hbg, Kd.R_mono (Kd.R_bound hR) (fun k hk => ⟨⟨hk.1.1, hk.2.2.1⟩, hk.1.2⟩)⟩

theorem BookAt.own {w : World} {base g T : Nat} {F : Nat → Prop} {room life last : Int} {l : List S34} (h : BookAt w base F g T room life last l) : BookAt w base (fun k => base ≤ k ∧ k < w.heap.size) g T room life last l := by
  obtain ⟨v, hb, hFg, hbg, hR⟩ := h
  exact ⟨v, hb, ⟨hbg, blk_lt hb⟩, hbg, Kd.R_mono (Kd.R_bound hR) (fun k hk => ⟨⟨hk.2.1, hk.2.2.1⟩, hk.1.2⟩)⟩

/-- Begin on a book that lies behind base, by a session whose draw lies ahead of it or behind all. -/
theorem begin_own (g base baseS : Nat) (okS : Nat → Prop) (room life last now : Int) (l : List S34) (x : Cs) (s : S34) (w : World) (F : Nat → Prop) (hB : BookAt w base F g 58 room life last l) (hF : ∀ k, F k → base ≤ k ∧ k < w.heap.size) (hn : l.length ≤ 1000000)
    (hS : SessM w baseS okS x s) (hO : ∀ k, okS k → ¬ F k) (hl0 : 0 ≤ last) (hl1 : last ≤ 18446744073709551615) (o : Int × Int × Int × List S34) (ho : beginS room life last l s now = o) :
    Calls Try.prog 9 #[.pointer (some ⟨g, 0, none⟩), x.agg, .int .u64 now] w fun e w' => e = .returned (.tuple #[.int .u64 o.1, .int .i64 o.2.1]) ∧ BookAt w' base (fun k => (F k ∨ w.heap.size ≤ k) ∧ k < w'.heap.size) g 58 room life o.2.2.1 o.2.2.2 ∧ Ft F w w' := by
  subst ho
  refine (begin_calls F okS g base baseS room life last now l x s w hB (fun k hk => (hF k hk).2) hn hS hO hl0 hl1).mono ?_
  rintro e w' ⟨rfl, hb, hf⟩
  exact ⟨rfl, hb.bound, hf⟩

set_option maxHeartbeats 4000000 in
theorem awake_calls (w : World) : Calls Try.prog 7 #[] w fun e w' => e = .returned (.bool true) ∧ Below w.heap.size w w' := by
  go_enter Try.func7, Try.ntmps7
  go_wp2_with (first | (go_at_call 8; refine (new_calls 1 10 0 w).mono ?_; rintro e w1 ⟨rfl, rfl⟩) | ((with_reducible refine gate_dst (N := 11) rfl ?_); refine Kd.R_make (Kd.int .u8) _ 5 rfl (N := 11) rfl 22 _ _ rfl 16 rfl rfl Try.underlying22 (.int .u8 0) 1 info5 rfl (by decide) (by omega) 0 (ok := fun _ => True) (okp := fun _ => True) rfl (fun _ hk => hk) trivial (by decide) (by decide) (Below.refl _ _) (Nat.le_refl _) ?_; intro v1 w2 ho hb hg_ hnew_; clear hg_ hnew_; obtain ⟨A, c, rfl⟩ := Kd.R_slice ho; have HO := Aside0.mk ho; have HB := Aside0.mk hb; clear ho hb))
  have hw1 : w.heap.size < (w.alloc (.cells #[.int .i64 1, .int .u64 10, .int .u64 0, .slice none 0 0] 58)).heap.size := by simp
  have hbk2 : BookAt w2 w.heap.size (fun k => k = w.heap.size) w.heap.size 58 1 10 0 [] := (bookAt_new 58 1 10 0 w w.heap.size (Nat.le_refl _)).step (fun k hk hlt => HB.out.block k hlt)
  have hb1 := begin_own w.heap.size w.heap.size _ (fun k => w.heap.size < k) 1 10 0 5 [] ⟨0, 0, ⟨#[117]⟩, A, 16, c, false, false⟩ s0 w2 _ hbk2 (fun k hk => ⟨by omega, by have := HB.out.size; omega⟩) (by simp) ⟨rfl, rfl, rfl, rfl, rfl, rfl, Kd.R_mono (Kd.R_bound HO.out) (fun k hk => by have := hk.2.1; omega)⟩ (fun k hk e => by omega) (by decide) (by decide) _ begin0
  have HBW := Aside0.mk ((below_alloc (Below.refl w.heap.size w) (.cells #[.int .i64 1, .int .u64 10, .int .u64 0, .slice none 0 0] 58)).trans (HB.out.mono (Nat.le_of_lt hw1)))
  have ht1 : ∀ (W : World) (F : Nat → Prop) (l l' : List S34) (y : S34) (code : Int), BookAt W w.heap.size F w.heap.size 58 1 10 1 l → (∀ k, F k → k < W.heap.size) → l.length ≤ 5 → takeS 1 14 l = (y, code, l') → ∀ ev : Int, y.f3 = ev →
      Calls Try.prog 11 #[.pointer (some ⟨w.heap.size, 0, none⟩), .int .u64 1, .int .u64 14] W fun e w' => ∃ x : Cs, e = .returned (.tuple #[.agg #[.int .u64 x.h, .string x.u, .slice x.dA x.dn x.dc, .int .u64 x.e, .bool x.r, .bool x.a], .int .i64 code]) ∧ x.e = ev ∧ BookAt w' w.heap.size F w.heap.size 58 1 10 1 l' ∧ Ft F W w' := by
    intro W F l l' y code h1 h2 h3 h4 ev hev
    refine (take_calls F w.heap.size w.heap.size 1 10 1 1 14 l W h1 h2 (by omega)).mono ?_
    rw [h4]
    rintro e w' ⟨x, rfl, hs, hb, hf⟩
    exact ⟨x, rfl, hs.2.2.1.trans hev, hb, hf⟩
  clear hbk2 HB HO hw1
  go_wp2_with (first | (go_at_call 9; refine hb1.mono ?_; rintro e w3 ⟨rfl, hb3, hf3⟩; have HB3 := Aside0.mk hb3; have HF3 := Aside0.mk hf3; clear hb3 hf3) | (go_at_call 11; refine (ht1 w3 _ _ _ _ _ HB3.out (fun k hk => hk.2) (by simp) take0 15 rfl).mono ?_; rintro e w4 ⟨x, rfl, hx4, hb4, hf4⟩; have HB4 := Aside0.mk hb4; have HF4 := Aside0.mk hf4; clear hb4 hf4) | (go_at_call 11; refine (ht1 _ _ _ _ _ _ (HB4.out.step (fun k _ hk => Below.heap_alloc _ _ _ hk)) (fun k hk => by have := HF4.out.size; have := hk.2; simp; omega) (by simp) take00 0 rfl).mono ?_; rintro e w5 ⟨x5, rfl, hx5, hb5, hf5⟩; have hx45 := hf5.blk (blk_new w4 _) (fun h => absurd h.2 (Nat.not_lt.2 HF4.out.size)); obtain ⟨y0, y1, y2, y3, y4, y5, y6⟩ := six hx45; have hsz45 := blk_lt hx45; clear hx45; have HB5 := Aside0.mk hb5; have HF5 := Aside0.mk hf5; clear hb5 hf5))
  go_ret
  refine ⟨rfl, ?_⟩
  have h3 : Ft (fun k => w.heap.size ≤ k) w w3 := (Ft.of_below HBW.out _).trans HF3.out (fun i hi => .inl (by omega))
  have h4 : Ft (fun k => w.heap.size ≤ k) w w4 := h3.trans HF4.out (fun i hi => .inl (by have := HBW.out.size; rcases hi.1 with h | h <;> omega))
  have h5 : Ft (fun k => w.heap.size ≤ k) w w5 := (h4.alloc _).trans HF5.out (fun i hi => .inl (by have := HBW.out.size; rcases hi.1 with h | h <;> omega))
  have h6 := h5.alloc (.cells #[.int .u64 x5.h, .string x5.u, .slice x5.dA x5.dn x5.dc, .int .u64 0, .bool x5.r, .bool x5.a] 34)
  exact ⟨h6.os, h6.tape, h6.output, h6.size, fun k hk => h6.block k hk (by omega)⟩

end Go.Proofs.Ytphbpcmncelkhaa.Sess
