/- SessRoom's walk. -/
import Derived.Test.YtphbpcmncelkhaaRoom15
namespace Go.Proofs.Ytphbpcmncelkhaa.Sess
open Go.RowKit Go.Shelf Go.Proofs.YtphbpcmncelkhaaW.PrintWords Go.Proofs.YtphbpcmncelkhaaW.PrintLast Go.Proofs.YtphbpcmncelkhaaW.PrintMore Go.Proofs.Ytphbpcmncelkhaa.PSessPlays
set_option linter.unusedVariables false
set_option linter.unusedSimpArgs false

theorem draw_calls (i : Int) (m : Nat) (hm : m ≤ 1000) (w : World) : Calls Try.prog 10 #[.int .u8 i, .int .i64 m] w fun e w' => ∃ (A : Option Addr) (c : Nat), e = .returned (.slice A (drawL i m).length c) ∧ Kd.R (Kd.int .u8) 5 w' w.heap.size (fun _ => True) (.slice A (drawL i m).length c) (drawL i m) ∧ Below w.heap.size w w' := by
  refine (latchkeyhand18_Draw.calls (m + 1) i m _ w (draw_ge i m hm (m + 1) (Nat.le_refl _))).mono ?_
  rintro e w' ⟨v, rfl, hr, hb⟩
  obtain ⟨A, c, rfl⟩ := Kd.R_slice hr
  exact ⟨A, c, rfl, hr, hb⟩

theorem take_own (F : Nat → Prop) (g base : Nat) (room life last handle now : Int) (l : List S34) (w : World) (hB : BookAt w base F g 58 room life last l) (hF : ∀ k, F k → k < w.heap.size) (hn : l.length ≤ 140737488355328) (o : S34 × Int × List S34) (ho : takeS handle now l = o) :
    Calls Try.prog 11 #[.pointer (some ⟨g, 0, none⟩), .int .u64 handle, .int .u64 now] w fun e w' => ∃ (A : Option Addr) (c : Nat), e = .returned (.tuple #[.agg #[.int .u64 o.1.f0, .string o.1.f1, .slice A o.1.f2.length c, .int .u64 o.1.f3, .bool o.1.f4, .bool o.1.f5], .int .i64 o.2.1]) ∧
      Kd.R (Kd.int .u8) 5 w' base F (.slice A o.1.f2.length c) o.1.f2 ∧ BookAt w' base F g 58 room life last o.2.2 ∧ Ft F w w' := by
  subst ho
  refine (take_calls F g base room life last handle now l w hB hF hn).mono ?_
  rintro e w' ⟨⟨xh, xe, xu, xA, xn, xc, xr, xa⟩, rfl, hs, hb, hf⟩
  obtain ⟨h0, h1, h2, h3, h4, h5, h6⟩ := hs
  simp only at h0 h1 h2 h3 h4 h5 h6
  subst h0 h1 h2 h3 h4 h5
  exact ⟨xA, xc, rfl, h6, hb, hf⟩

theorem take_end (g base : Nat) (F : Nat → Prop) (w : World) (hB : BookAt w base F g 58 3 5 18446744073709551615 endL) (hF : ∀ k, F k → k < w.heap.size) :
    Calls Try.prog 11 #[.pointer (some ⟨g, 0, none⟩), .int .u64 18446744073709551615, .int .u64 18446744073709551614] w fun e w' => ∃ (A : Option Addr) (c : Nat), e = .returned (.tuple #[.agg #[.int .u64 18446744073709551615, .string ⟨#[117]⟩, .slice A 30 c, .int .u64 18446744073709551615, .bool false, .bool false], .int .i64 0]) ∧
      BookAt w' base F g 58 3 5 18446744073709551615 [] ∧ Ft F w w' := by
  refine (take_own F g base 3 5 18446744073709551615 18446744073709551615 18446744073709551614 endL w hB hF (by simp [endL]) _ end_take).mono ?_
  rintro e w' ⟨A, c, rfl, -, hb, hf⟩
  exact ⟨A, c, rfl, hb, hf⟩

set_option maxHeartbeats 4000000 in
theorem room_walk (room more : Int) (hr0 : 0 ≤ room) (hr1 : room ≤ 255) (hm0 : 0 ≤ more) (hm1 : more ≤ 255) (w : World) :
    Calls Try.prog 4 #[.int .u8 room, .int .u8 more] w fun e w' => e = .returned (.bool true) ∧ Below w.heap.size w w' := by
  have hu34 := Try.underlying34
  obtain ⟨n, hn, hn0, hn1⟩ : ∃ n : Nat, 1 + room % 16 = (n : Int) ∧ 1 ≤ n ∧ n ≤ 16 := ⟨(1 + room % 16).toNat, by omega, by omega, by omega⟩
  have HN := Aside0.mk hn
  clear hn
  go_enter Try.func4, Try.ntmps4
  go_wp2_with (first | (go_at_call 7; refine (awake_calls _).mono ?_; rintro e w1 ⟨rfl, hb1⟩; have HB1 := Aside0.mk hb1; clear hb1) | (go_at_call 8; rw [HN.out]; refine (new_calls n 10 0 _).mono ?_; rintro e w2 ⟨rfl, hw2⟩; have HW2 := Aside0.mk hw2; clear hw2))
  have hbk : BookAt w2 w.heap.size (fun k => k = w1.heap.size) w1.heap.size 58 n 10 0 [] := by rw [HW2.out]; exact bookAt_new 58 n 10 0 w1 w.heap.size HB1.out.size
  have hbl : Below w.heap.size w w2 := by rw [HW2.out]; exact below_alloc HB1.out _
  have hg : w1.heap.size < w2.heap.size := by rw [HW2.out]; simp
  have hgb := HB1.out.size
  have HK := Aside0.mk hbk
  have HL := Aside0.mk hbl
  have HG := Aside0.mk hg
  have HGB := Aside0.mk hgb
  clear hbk hbl hg hgb HB1 HW2
  generalize w1.heap.size = g at *
  clear w1
  go_loopg [30] n (fun gg s30 wr => ∃ (i : Nat) (F : Nat → Prop), i ≤ n ∧ n - i ≤ gg ∧ s30 = .int .i64 i ∧ Aside0 (BookAt wr w.heap.size F g 58 n 10 i (roomL i)) ∧ Aside0 (∀ k, F k → w.heap.size ≤ k ∧ k < wr.heap.size) ∧ Aside0 (Below w.heap.size w wr))
  case atStart => exact ⟨0, _, Nat.zero_le _, by omega, rfl, HK, ⟨fun k hk => by have := HG.out; have := HGB.out; omega⟩, HL⟩
  case round =>
    obtain ⟨i, F, hi, hgg, rfl, HB, HF, HBel⟩ := hrel
    by_cases hlt : i < n
    · have hltz : (i : Int) < (n : Int) := by omega
      have hst : beginS n 10 i (roomL i) (roomS i) ((i : Int) % 3) = ((i : Int) + 1, 0, (i : Int) + 1, roomL (i + 1)) := by
        have := room_step i n hlt hn1
        exact_mod_cast this
      have HST := Aside0.mk hst
      clear hst
      go_wp2_with (first | (go_at_call 10; refine (draw_calls i 30 (by omega) wr).mono ?_; rintro e w2 ⟨A, c, rfl, hr, hd⟩; have HR := Aside0.mk hr; have HD := Aside0.mk hd; clear hr hd) | (go_at_call 9; refine (begin_drawn F g w.heap.size n 10 i ((i : Int) % 3) (roomL i) 0 ⟨#[117]⟩ 0 false false A c (drawL i 30) wr w2 HB.out (fun k hk => (HF.out k hk).2) (by rw [roomL_length]; omega) HD.out HR.out (by omega) (by omega) _ HST.out).mono ?_; rintro e w3 ⟨rfl, hb3, hf3⟩; have HB3 := Aside0.mk hb3; have HF3 := Aside0.mk hf3; clear hb3 hf3))
      go_roundg (n - (i + 1))
      case measure => omega
      case rel =>
        refine ⟨i + 1, (fun k => (F k ∨ w2.heap.size ≤ k) ∧ k < w3.heap.size), by omega, by omega, by push_cast; rfl, ⟨by push_cast; exact HB3.out⟩, ⟨fun k hk => ⟨?_, hk.2⟩⟩, ⟨(HF3.out.mono (fun k hk => (HF.out k hk).1)).below (HBel.out.trans (HD.out.mono HBel.out.size)) (by have := HBel.out.size; have := HD.out.size; omega) (fun k hk => hk)⟩⟩
        have := HBel.out.size
        have := HD.out.size
        rcases hk.1 with h | h
        · exact (HF.out k h).1
        · omega
    · have hin : i = n := by omega
      subst hin
      have hltz : ¬ (i : Int) < (i : Int) := by omega
      have hfull := Aside0.mk (room_full i hn1)
      have hagain := Aside0.mk (room_again i hn0 hn1 (12 + more) (by omega))
      have hlen := Aside0.mk (roomL_length i)
      go_wp2_with (go_at_call 10; refine (draw_calls 200 30 (by omega) wr).mono ?_; rintro e w2 ⟨A, c, rfl, hr, hd⟩; have HR := Aside0.mk hr; have HD := Aside0.mk hd; clear hr hd)
      go_wp2_with (go_at_call 9; refine (begin_drawn F g w.heap.size i 10 i 5 (roomL i) 0 ⟨#[117]⟩ 0 false false A c (drawL 200 30) wr w2 HB.out (fun k hk => (HF.out k hk).2) (by rw [hlen.out]; omega) HD.out HR.out (by omega) (by omega) _ hfull.out).mono ?_; rintro e w3 ⟨rfl, hb3, hf3⟩; have HB3 := Aside0.mk hb3; have HF3 := Aside0.mk hf3; clear hb3 hf3)
      go_wp2_with (go_at_call 10; refine (draw_calls 200 30 (by omega) w3).mono ?_; rintro e w4 ⟨A4, c4, rfl, hr, hd⟩; have HR4 := Aside0.mk hr; have HD4 := Aside0.mk hd; clear hr hd)
      go_wp2_with (go_at_call 9; refine (begin_drawn _ g w.heap.size i 10 i (12 + more) (roomL i) 0 ⟨#[117]⟩ 0 false false A4 c4 (drawL 200 30) w3 w4 HB3.out (fun k hk => hk.2) (by rw [hlen.out]; omega) HD4.out HR4.out (by omega) (by omega) _ hagain.out).mono ?_; rintro e w5 ⟨rfl, hb5, hf5⟩; have HF5 := Aside0.mk hf5; clear hb5 hf5)
      go_wp2_with (go_at_call 8; refine (new_calls 3 5 18446744073709551614 _).mono ?_; rintro e w6 ⟨rfl, hw6⟩; have HW6 := Aside0.mk hw6; clear hw6)
      go_wp2_with (go_at_call 10; refine (draw_calls 1 30 (by omega) w6).mono ?_; rintro e w7 ⟨A7, c7, rfl, hr, hd⟩; have HR7 := Aside0.mk hr; have HD7 := Aside0.mk hd; clear hr hd)
      go_wp2_with (go_at_call 9; refine (begin_drawn _ w5.heap.size w5.heap.size 3 5 18446744073709551614 18446744073709551614 [] 0 ⟨#[117]⟩ 0 false false A7 c7 (drawL 1 30) w6 w7 (by rw [HW6.out]; exact bookAt_new 58 3 5 18446744073709551614 w5 w5.heap.size (Nat.le_refl _)) (fun k hk => by rw [HW6.out]; simp [hk]) (by simp) HD7.out HR7.out (by omega) (by omega) _ end_begin).mono ?_; rintro e w8 ⟨rfl, hb8, hf8⟩; have HB8 := Aside0.mk hb8; have HF8 := Aside0.mk hf8; clear hb8 hf8)
      go_wp2_with (go_at_call 11; refine (take_end w5.heap.size w5.heap.size _ w8 HB8.out (fun k hk => hk.2)).mono ?_; rintro e w9 ⟨A9, c9, rfl, hb9, hf9⟩; have HB9 := Aside0.mk hb9; have HF9 := Aside0.mk hf9; clear hb9 hf9)
      obtain ⟨w10, hw10, hx10, hb10⟩ : ∃ W, W = w9.alloc (.cells #[.int .u64 18446744073709551615, .string ⟨#[117]⟩, .slice A9 30 c9, .int .u64 18446744073709551615, .bool false, .bool false] 34) ∧ W.heap[w9.heap.size]? = some (.cells #[.int .u64 18446744073709551615, .string ⟨#[117]⟩, .slice A9 30 c9, .int .u64 18446744073709551615, .bool false, .bool false] 34 (0, 0)) ∧ Below w9.heap.size w9 W := ⟨_, rfl, blk_new _ _, below_alloc (Below.refl _ _) _⟩
      rw [← hw10]
      clear hw10
      have HB10 := Aside0.mk hb10
      have HX10 := Aside0.mk hx10
      clear hb10 hx10
      go_wp2_with (go_at_call 10; refine (draw_calls 1 30 (by omega) w10).mono ?_; rintro e w11 ⟨A11, c11, rfl, hr, hd⟩; have HR11 := Aside0.mk hr; have HD11 := Aside0.mk hd; clear hr hd)
      go_wp2_with (go_at_call 9; refine (begin_drawn _ w5.heap.size w5.heap.size 3 5 18446744073709551615 0 [] 0 ⟨#[117]⟩ 0 false false A11 c11 (drawL 1 30) w10 w11 (HB9.out.step (fun k _ hk => HB10.out.block k hk)) (fun k hk => by have h1 := hk.2; have h2 := HF9.out.size; have h3 := HB10.out.size; omega) (by simp) HD11.out HR11.out (by omega) (by omega) _ end_none).mono ?_; rintro e w12 ⟨rfl, hb12, hf12⟩; have hx12 := hf12.blk ((HD11.out.block _ (blk_lt HX10.out)).trans HX10.out) (fun hk => by have h1 := hk.2; have h2 := HF9.out.size; omega); have hlt12 := blk_lt hx12; obtain ⟨x0, x1, x2, x3, x4, x5, x6⟩ := six hx12; have HF12 := Aside0.mk hf12; clear hb12 hf12 hx12)
      go_ret
      refine ⟨rfl, ?_⟩
      have s0 := HBel.out.size
      have s2 := HD.out.size
      have s3 := HF3.out.size
      have s4 := HD4.out.size
      have s5 := HF5.out.size
      have b3 := HF3.out.below (HBel.out.trans (HD.out.mono s0)) (by omega) (fun k hk => (HF.out k hk).1)
      have b5 := HF5.out.below (b3.trans (HD4.out.mono (by omega))) (by omega) (fun k hk => by rcases hk.1 with h | h; exact (HF.out k h).1; omega)
      have b6 : Below w.heap.size w w6 := by rw [HW6.out]; exact below_alloc b5 _
      have s6 : w5.heap.size ≤ w6.heap.size := by rw [HW6.out]; simp
      have s7 := HD7.out.size
      have s8 := HF8.out.size
      have s9 := HF9.out.size
      have s10 := HB10.out.size
      have s11 := HD11.out.size
      have b8 := HF8.out.below (b6.trans (HD7.out.mono (by omega))) (by omega) (fun k hk => by omega)
      have b9 := HF9.out.below b8 (by omega) (fun k hk => by rcases hk.1 with h | h <;> omega)
      exact HF12.out.below ((b9.trans (HB10.out.mono (by omega))).trans (HD11.out.mono (by omega))) (by omega) (fun k hk => by rcases hk.1 with h | h <;> omega)

end Go.Proofs.Ytphbpcmncelkhaa.Sess
