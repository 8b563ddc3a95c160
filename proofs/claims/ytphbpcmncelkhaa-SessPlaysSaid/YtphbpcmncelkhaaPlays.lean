/- SessPlays' walk. -/
import Derived.Test.YtphbpcmncelkhaaTwo2
import Derived.Test.YtphbpcmncelkhaaNil15
import Derived.Deep.Cut
import Derived.Deep.CutRange
import Derived.Deep.CutBlock
import Derived.Deep.RegionHeld3
namespace Go.Proofs.Ytphbpcmncelkhaa.Sess
open Go.RowKit Go.Shelf Go.Proofs.YtphbpcmncelkhaaW.PrintWords Go.Proofs.YtphbpcmncelkhaaW.PrintLast Go.Proofs.YtphbpcmncelkhaaW.PrintMore Go.Proofs.Ytphbpcmncelkhaa.PSessPlays
set_option linter.unusedVariables false
set_option linter.unusedSimpArgs false

theorem round_lt {N k g : Nat} (h : N - k ≤ g) (hk : k < N) : N - (k + 1) < g := by omega
theorem wrap_next {N k : Nat} (hk : k < N) (hN : N ≤ 9223372036854775807) : wrap64 ((k : Int) + 1) = ((k + 1 : Nat) : Int) := by unfold wrap64; omega

set_option maxHeartbeats 16000000 in
set_option maxRecDepth 100000 in
theorem plays_walk (room life last : Int) (hl0 : 0 ≤ last) (hl1 : last ≤ 18446744073709551615) (A : Option Addr) (n c : Nat) (w : World) (hn : n ≤ 9223372036854775807) (hacts : ActsAt w A n) :
    Calls Try.prog 5 #[.int .i64 room, .int .u64 life, .int .u64 last, .slice A n c] w fun e w' => e = .returned (.bool true) ∧ Below w.heap.size w w' := by
  have hu34 := Try.underlying34
  have hu47 := Try.underlying47
  have HA := Aside0.mk hacts
  clear hacts
  go_enter Try.func5, Try.ntmps5
  go_wp2_with (first | (go_at_call 7; refine (awake_calls _).mono ?_; rintro e w1 ⟨rfl, hb1⟩; have HB1 := Aside0.mk hb1; clear hb1) | (go_at_call 8; refine (new_calls room life last _).mono ?_; rintro e w2 ⟨rfl, hw2⟩; have HW2 := Aside0.mk hw2; clear hw2))
  obtain ⟨w3, hw3⟩ : ∃ W, W = w2.alloc (.cells #[.int .i64 room, .int .u64 life, .int .u64 last, .slice none 0 0] 45) := ⟨_, rfl⟩
  rw [← hw3]
  have hs2 : w2.heap.size = w1.heap.size + 1 := by rw [HW2.out]; simp
  have htwo : TwoB w w3 w1.heap.size w2.heap.size room life last [] 0 := by
    have hb2 : Below w1.heap.size w1 w2 := by rw [HW2.out]; exact below_alloc (Below.refl _ _) _
    have hb3 : Below w2.heap.size w2 w3 := by rw [hw3]; exact below_alloc (Below.refl _ _) _
    have hs3 : w3.heap.size = w2.heap.size + 1 := by rw [hw3]; simp
    have hs1 := HB1.out.size
    refine ⟨fun k => k = w1.heap.size, fun k => k = w2.heap.size, ⟨hl0, hl1, Nat.le_refl _⟩, ?_, ?_, fun k hk => by omega, fun k hk => by omega, fun k hk h => by omega, (HB1.out.trans (hb2.mono hs1)).trans (hb3.mono (by omega))⟩
    · have h1 : BookAt w2 w.heap.size (fun k => k = w1.heap.size) w1.heap.size 58 room life last [] := by rw [HW2.out]; exact bookAt_new 58 room life last w1 w.heap.size hs1
      exact h1.step (fun k _ hk => hb3.block k hk)
    · rw [hw3]; exact bookAt_new 45 room life last w2 w.heap.size (by omega)
  have HT := Aside0.mk htwo
  clear htwo hw3 HB1 HW2 hs2
  generalize w1.heap.size = g1 at HT ⊢
  generalize w2.heap.size = g2 at HT ⊢
  clear w1 w2
  go_loopg [11, 38] n (fun gg s11 s38 wr => ∃ (i : Nat) (now last' : Int) (l : List S34), i ≤ n ∧ i ≤ 151 ∧ n - i ≤ gg ∧ s38 = .int .i64 i ∧ s11 = .int .u64 now ∧ Aside0 (TwoB w wr g1 g2 room life last' l i))
  case atStart => exact ⟨0, 0, last, [], Nat.zero_le _, by omega, by omega, rfl, rfl, HT⟩
  case round =>
    obtain ⟨i, now, last', l, hi, hi2, hgg, rfl, rfl, HTW⟩ := hrel
    clear HT
    by_cases hlt : i < n
    · have hltz : (i : Int) < (n : Int) := by omega
      by_cases hbr : 150 < i
      · have hbz : (150 : Int) < (i : Int) := by omega
        obtain ⟨a, rfl, hab, kd, u, d, z, h, raw, reg, nw, hact, hkd, hu, hz, hh, hnw⟩ : ∃ a, A = some a ∧ a.block < w.heap.size ∧ ∃ (kd u d z h : Int) (raw reg : Bool) (nw : Int), ActAt w (a.add (i * 8)) kd u d z h raw reg nw ∧ (0 ≤ kd ∧ kd ≤ 255) ∧ 0 ≤ u ∧ 0 ≤ z ∧ (0 ≤ h ∧ h ≤ 18446744073709551615) ∧ (0 ≤ nw ∧ nw ≤ 18446744073709551615) := by
          rcases HA.out with h | ⟨a, h1, h2, h3⟩
          · omega
          · exact ⟨a, h1, h2, h3 i hlt⟩
        have hpb : (a.add (i * 8)).block = a.block := by unfold Addr.add; split <;> rfl
        have hbl : Below w.heap.size w wr := by
          obtain ⟨F1, F2, -, -, -, -, -, -, hbl⟩ := HTW.out
          exact hbl
        obtain ⟨k0, k1, k2, k3, k4, k5, k6, k7⟩ := hact.below hbl (by rw [hpb]; exact hab)
        have HBL := Aside0.mk hbl
        clear hact hpb hbl
        go_wp2
        go_ret
        exact ⟨rfl, below_alloc HBL.out _⟩
      · have hbz : ¬ (150 : Int) < (i : Int) := by omega
        obtain ⟨a, rfl, hab, kd, u, d, z, h, raw, reg, nw, hact, hkd, hu, hz, hh, hnw⟩ : ∃ a, A = some a ∧ a.block < w.heap.size ∧ ∃ (kd u d z h : Int) (raw reg : Bool) (nw : Int), ActAt w (a.add (i * 8)) kd u d z h raw reg nw ∧ (0 ≤ kd ∧ kd ≤ 255) ∧ 0 ≤ u ∧ 0 ≤ z ∧ (0 ≤ h ∧ h ≤ 18446744073709551615) ∧ (0 ≤ nw ∧ nw ≤ 18446744073709551615) := by
          rcases HA.out with h | ⟨a, h1, h2, h3⟩
          · omega
          · exact ⟨a, h1, h2, h3 i hlt⟩
        have hpb : (a.add (i * 8)).block = a.block := by unfold Addr.add; split <;> rfl
        have hactr : ActAt wr (a.add (i * 8)) kd u d z h raw reg nw := by
          obtain ⟨F1, F2, -, -, -, -, -, -, hbl⟩ := HTW.out
          exact hact.below hbl (by rw [hpb]; exact hab)
        obtain ⟨k0, k1, k2, k3, k4, k5, k6, k7⟩ := hactr
        clear hact hpb
        go_upto_block 2 with (fail)
        obtain ⟨wa, hwa, hxa, hba⟩ : ∃ W, W = wr.alloc (.cells #[.int .u8 kd, .int .u8 u, .int .u8 d, .int .u8 z, .int .u64 h, .bool raw, .bool reg, .int .u64 nw] 47) ∧ W.heap[wr.heap.size]? = some (.cells #[.int .u8 kd, .int .u8 u, .int .u8 d, .int .u8 z, .int .u64 h, .bool raw, .bool reg, .int .u64 nw] 47 (0, 0)) ∧ Below wr.heap.size wr W := ⟨_, rfl, blk_new _ _, below_alloc (Below.refl _ _) _⟩
        rw [← hwa]
        have hta : TwoB w wa g1 g2 room life last' l i := HTW.out.below hba (Nat.le_refl _)
        have hapart : ∀ k, k = wr.heap.size → w.heap.size ≤ k := fun k hk => by
          obtain ⟨F1, F2, -, -, -, -, -, -, hbl⟩ := HTW.out
          have := hbl.size
          omega
        have HTA := Aside0.mk hta
        have HXA := Aside0.mk hxa
        have HBA := Aside0.mk hba
        have HAP := Aside0.mk hapart
        clear hwa hta hxa hba hapart k0 k1 k2 k3 k4 k5 k6 k7
        obtain ⟨q, hq, hq0, hq4⟩ : ∃ q, kd % 4 = q ∧ 0 ≤ q ∧ q < 4 := ⟨_, rfl, by omega, by omega⟩
        rw [hq]
        clear hq
        go_cut [11, 14, 15, 16, 17, 18, 19, 20, 21, 22, 23, 24] from 39 to 152 (fun s11 s14 s15 s16 s17 s18 s19 s20 s21 s22 s23 s24 wx => ∃ (now' last'' : Int) (l' : List S34), s11 = .int .u64 now' ∧ Aside0 (TwoB w wx g1 g2 room life last'' l' (i + 1)) ∧ Aside0 (wx.heap[wr.heap.size]? = some (.cells #[.int .u8 kd, .int .u8 u, .int .u8 d, .int .u8 z, .int .u64 h, .bool raw, .bool reg, .int .u64 nw] 47 (0, 0))))
        case first =>
          obtain ⟨F1, F2, hbd, hb1, hb2, hf1, hf2, hf3, hbl⟩ := HTW.out
          obtain ⟨q0, q1, q2, q3, q4, q5, q6, q7⟩ := eight HXA.out
          have hla := blk_lt HXA.out
          have HBD := Aside0.mk hbd
          have HB1 := Aside0.mk (hb1.step (fun k _ hk => HBA.out.block k hk))
          have HB2 := Aside0.mk (hb2.step (fun k _ hk => HBA.out.block k hk))
          have HF1 := Aside0.mk hf1
          have HF2 := Aside0.mk hf2
          have HF3 := Aside0.mk hf3
          have HBL := Aside0.mk hbl
          clear hbd hb1 hb2 hf1 hf2 hf3 hbl
          have hq' : q = 3 ∨ q = 2 ∨ q = 0 ∨ q = 1 := by omega
          rcases hq' with rfl | rfl | hq'
          · cases raw with
            | true =>
              go_wp2
              go_meet
              exact ⟨nw, last', l, rfl, ⟨HTA.out.below (Below.refl _ _) (Nat.le_succ _)⟩, HXA⟩
            | false =>
              go_wp2
              go_meet
              exact ⟨_, last', l, rfl, ⟨HTA.out.below (Below.refl _ _) (Nat.le_succ _)⟩, HXA⟩
          · go_upto_if 108 with (fail)
            go_cut [20] from 39 to 152 (fun s20 wx => ∃ hv : Int, s20 = .int .u64 hv ∧ wa = wx)
            case first =>
              cases raw with
              | true =>
                go_wp2
                go_meet
                exact ⟨_, rfl, rfl⟩
              | false =>
                go_wp2
                go_meet
                exact ⟨_, rfl, rfl⟩
            case rest =>
              obtain ⟨hv, rfl, rfl⟩ := hcut
              obtain ⟨y, code, l2, ho⟩ : ∃ y code l2, takeS hv now l = (y, code, l2) := ⟨_, _, _, rfl⟩
              have hlen2 : l2.length ≤ l.length := by have := take_bounds hv now l; rw [ho] at this; exact this
              have HO := Aside0.mk ho
              have HLEN2 := Aside0.mk hlen2
              clear ho hlen2
              go_wp2_with (go_at_call 11; refine (take_own F1 g1 w.heap.size room life last' hv now l wa HB1.out (fun k hk => by have h1 := (HF1.out k hk).2; have h2 := HBA.out.size; omega) (by have h1 := HBD.out.2.2; omega) _ HO.out).mono ?_; rintro e w4 ⟨A4, c4, rfl, hr4, hb4, hf4⟩; have HR4 := Aside0.mk hr4; have HB4 := Aside0.mk hb4; have HF4 := Aside0.mk hf4; clear hr4 hb4 hf4)
              obtain ⟨w5, hw5, hx5, hb5⟩ : ∃ W, W = w4.alloc (.cells #[.int .u64 y.f0, .string y.f1, .slice A4 y.f2.length c4, .int .u64 y.f3, .bool y.f4, .bool y.f5] 34) ∧ W.heap[w4.heap.size]? = some (.cells #[.int .u64 y.f0, .string y.f1, .slice A4 y.f2.length c4, .int .u64 y.f3, .bool y.f4, .bool y.f5] 34 (0, 0)) ∧ Below w4.heap.size w4 W := ⟨_, rfl, blk_new _ _, below_alloc (Below.refl _ _) _⟩
              rw [← hw5]
              clear hw5
              have s1 := HBA.out.size
              have s4 := HF4.out.size
              have s5 := hb5.size
              have hx4lt := blk_lt hx5
              have HX5 := Aside0.mk hx5
              have HB5 := Aside0.mk hb5
              clear hx5 hb5
              go_wp2_with (go_at_call 14; refine (rtake_own F2 g2 w.heap.size room life last' hv now l w5 (HB2.out.step (fun k hk hlt => (HB5.out.block k (by omega)).trans (HF4.out.block k hlt (fun h => HF3.out k h hk)))) (fun k hk => by have h1 := (HF2.out k hk).2; omega) (by have h1 := HBD.out.2.2; omega) _ HO.out).mono ?_; rintro e w6 ⟨A6, c6, rfl, hr6, hb6, hf6⟩; have hx6 := (hf6.block _ hx4lt (fun h => by have := (HF2.out _ h).2; omega)).trans HX5.out; have s6 := hf6.size; have hlt6 : w4.heap.size < w6.heap.size := Nat.lt_of_lt_of_le hx4lt s6; have hne6 : w4.heap.size ≠ w6.heap.size := Nat.ne_of_lt hlt6; obtain ⟨x0, x1, x2, x3, x4, x5, x6⟩ := six hx6; have HX6 := Aside0.mk hx6; have HR6 := Aside0.mk hr6; have HB6 := Aside0.mk hb6; have HF6 := Aside0.mk hf6; clear hx6 hr6 hb6 hf6)
              obtain ⟨w7, hw7, hb7⟩ : ∃ W, W = w6.alloc (.cells #[.int .u64 y.f0, .string y.f1, .slice A6 y.f2.length c6, .int .u64 y.f3, .bool y.f4, .bool y.f5] 34) ∧ Below w6.heap.size w6 W := ⟨_, rfl, below_alloc (Below.refl _ _) _⟩
              rw [← hw7]
              clear hw7
              have HB7 := Aside0.mk hb7
              clear hb7
              go_wp2_with (go_at_call 15; refine (same_calls y A4 A6 c4 c6 w7 _ _ _ _ (Kd.R_step HR4.out (fun k hk hlt => (HB7.out.block k (by omega)).trans ((HF6.out.block k (by omega) (HF3.out k hk)).trans (HB5.out.block k hlt)))) (Kd.R_step HR6.out (fun k _ hlt => HB7.out.block k hlt))).mono ?_; rintro e w8 ⟨rfl, hb8⟩; have HB8 := Aside0.mk (HB7.out.trans (hb8.mono HB7.out.size)); clear hb8)
              go_meet
              refine ⟨now, last', l2, rfl, ⟨two_taken (by have h1 := HBD.out; have h2 := HLEN2.out; omega) HBL.out HBA.out HF4.out HB5.out HF6.out HB8.out HF1.out HF2.out HF3.out HB4.out HB6.out⟩, ⟨?_⟩⟩
              exact (HB8.out.block _ (by omega)).trans ((HF6.out.block _ (by omega) (fun h => by have := (HF2.out _ h).2; omega)).trans ((HB5.out.block _ (by omega)).trans ((HF4.out.block _ hla (fun h => by have := (HF1.out _ h).2; omega)).trans HXA.out)))
          · obtain ⟨s, hs⟩ := session_tot kd u d z h raw reg nw hu hz
            obtain ⟨hdl, code, last2, l2, ho⟩ : ∃ hdl code last2 l2, beginS room life last' l ⟨s.f0, s.f1, s.f2, s.f3, s.f4, s.f5⟩ now = (hdl, code, last2, l2) := ⟨_, _, _, _, rfl⟩
            have hbd2 : 0 ≤ last2 ∧ last2 ≤ 18446744073709551615 ∧ l2.length ≤ i + 1 := by
              have h1 := begin_bounds room life last' l ⟨s.f0, s.f1, s.f2, s.f3, s.f4, s.f5⟩ now HBD.out.1 HBD.out.2.1
              rw [ho] at h1
              have h2 := HBD.out.2.2
              have h3 : l2.length ≤ l.length + 1 := h1.2
              exact ⟨h1.1.1, h1.1.2, by omega⟩
            have HS := Aside0.mk hs
            have HO := Aside0.mk ho
            have HBD2 := Aside0.mk hbd2
            clear hs ho hbd2
            have hqe : q = 0 ∨ q = 1 := hq'
            have s1 := HBA.out.size
            go_upto_if 57 with (fail)
            go_cut [57] from 39 to 152 (fun s57 wx => s57 = .bool true ∧ wa = wx)
            case first =>
              rcases hqe with rfl | rfl
              · go_wp2
                go_meet
                exact ⟨rfl, rfl⟩
              · go_wp2
                go_meet
                exact ⟨rfl, rfl⟩
            case rest =>
              obtain ⟨rfl, rfl⟩ := hcut
              clear hqe hq'
              go_wp2_with (go_at_call 12; refine (latchkeylaw20_session.calls 100 kd u d z h raw reg nw _ _ _ _ _ _ _ (HS.out 100 (Nat.le_refl _))).mono ?_; rintro e wA ⟨v2, rfl, hv2, hb2⟩; obtain ⟨A1, c1, rfl⟩ := Kd.R_slice hv2; have HV := Aside0.mk hv2; have HBA1 := Aside0.mk hb2; clear hv2 hb2)
              obtain ⟨wB, hwB, hxB, hbB⟩ : ∃ W, W = wA.alloc (.cells #[.int .u64 s.f0, .string s.f1, .slice A1 s.f2.length c1, .int .u64 s.f3, .bool s.f4, .bool s.f5] 34) ∧ W.heap[wA.heap.size]? = some (.cells #[.int .u64 s.f0, .string s.f1, .slice A1 s.f2.length c1, .int .u64 s.f3, .bool s.f4, .bool s.f5] 34 (0, 0)) ∧ Below wA.heap.size wA W := ⟨_, rfl, blk_new _ _, below_alloc (Below.refl _ _) _⟩
              rw [← hwB]
              clear hwB
              have s2 := HBA1.out.size
              have s3 := hbB.size
              have hltB := blk_lt hxB
              have HXB := Aside0.mk hxB
              have HBB := Aside0.mk hbB
              clear hxB hbB
              have HVB := Aside0.mk (Kd.R_below HV.out HBB.out)
              go_wp2_with (go_at_call 9; refine (begin_drawn F1 g1 w.heap.size room life last' now l s.f0 s.f1 s.f3 s.f4 s.f5 A1 c1 s.f2 wa wB HB1.out (fun k hk => by have h1 := (HF1.out k hk).2; omega) (by have h1 := HBD.out.2.2; omega) (HBA1.out.trans (HBB.out.mono s2)) HVB.out HBD.out.1 HBD.out.2.1 _ HO.out).mono ?_; rintro e wC ⟨rfl, hbC, hfC⟩; have hxC := (hfC.block _ hltB (fun h => by have := (HF1.out _ h).2; omega)).trans HXB.out; obtain ⟨x0, x1, x2, x3, x4, x5, x6⟩ := six hxC; have s4 := hfC.size; have HXC := Aside0.mk hxC; have HBC := Aside0.mk hbC; have HFC := Aside0.mk hfC; clear hxC hbC hfC)
              have hVC : Kd.R (Kd.int .u8) 5 wC wa.heap.size (fun j => wa.heap.size ≤ j ∧ j < wA.heap.size) (.slice A1 s.f2.length c1) s.f2 :=
                Kd.R_step (Kd.R_mono (Kd.R_bound HV.out) (fun k hk => ⟨hk.2.1, hk.2.2.1⟩)) (fun k hk hlt => (HFC.out.block k (by have := hk.2; omega) (fun h => by have h1 := (HF1.out k h).2; have h2 := hk.1; omega)).trans (HBB.out.block k hk.2))
              have hmx : s.f2.length ≤ 9223372036854775807 := by
                obtain ⟨_, _, _, _, hC⟩ := Kd.R_reads HV.out
                exact Kd.C_max hC
              have HMX := Aside0.mk hmx
              have HVC := Aside0.mk hVC
              clear hVC hmx
              go_loopg [72] s.f2.length (fun gg s72 wl => ∃ (k : Nat) (xs : List Int), k ≤ s.f2.length ∧ s.f2.length - k ≤ gg ∧ s72 = .int .i64 k ∧ Aside0 (xs.length = s.f2.length) ∧ Aside0 (Kd.R (Kd.int .u8) 5 wl wa.heap.size (fun j => wa.heap.size ≤ j ∧ j < wA.heap.size) (.slice A1 s.f2.length c1) xs) ∧ Aside0 (Ft (fun j => wa.heap.size ≤ j ∧ j < wA.heap.size) wC wl))
              case atStart => exact ⟨0, s.f2, Nat.zero_le _, by omega, rfl, ⟨rfl⟩, HVC, ⟨Ft.refl _ _⟩⟩
              case round =>
                obtain ⟨k, xs, hk, hgk, rfl, HLX, HRX, HFX⟩ := hrel
                have hxl := (HFX.out.block _ (by have := hltB; omega) (fun h => by have := h.2; omega)).trans HXC.out
                clear x0 x1 x2 x3 x4 x5 x6
                obtain ⟨x0, x1, x2, x3, x4, x5, x6⟩ := six hxl
                have hxlt := blk_lt hxl
                have HXL := Aside0.mk hxl
                clear hxl
                by_cases hkl : k < s.f2.length
                · have hkz : (k : Int) < (s.f2.length : Int) := by omega
                  have hkz0 : (0 : Int) ≤ (k : Int) := by omega
                  obtain ⟨gb, cb, eb, hgb1, hgb2, cells, hcells⟩ := Kd.R_form HRX.out (by have := HLX.out; omega)
                  injection eb with ea en ec
                  subst ea ec
                  have hgo : wa.heap.size ≤ gb ∧ gb < wA.heap.size := HRX.out.1 gb rfl
                  obtain ⟨hc1, hc2⟩ := Kd.R_celln 0 HRX.out (k : Int) hkz0 hkz
                  rw [Int.toNat_natCast] at hc1 hc2
                  have HCE := Aside0.mk hcells
                  clear hcells en
                  have hne : wA.heap.size ≠ gb := by omega
                  have hne2 : gb ≠ wA.heap.size := by omega
                  have m1 : k + 1 ≤ s.f2.length := hkl
                  have m3 := Aside0.mk (round_lt hgk hkl)
                  have hw64 := Aside0.mk (wrap_next hkl HMX.out)
                  go_wp2
                  go_roundg (s.f2.length - (k + 1))
                  case measure => exact m3.out
                  case rel =>
                    refine ⟨k + 1, xs.set k _, m1, Nat.le_refl _, by rw [hw64.out], ⟨by rw [List.length_set]; exact HLX.out⟩, ⟨(Kd.R_putg HRX.out (k : Int) _).1⟩, ⟨HFX.out.setCell (p := ⟨gb, k, none⟩) (.inl hgo) _⟩⟩
                · have hke : k = s.f2.length := by omega
                  have hkz : ¬ (k : Int) < (s.f2.length : Int) := by omega
                  have hkq : decide ((k : Int) < (s.f2.length : Int)) = false := decide_eq_false hkz
                  clear hke
                  have hal := (begun_kept (hx := HXA.out) (Nat.le_refl _) HBA1.out HBB.out HFC.out HFX.out (Below.refl _ _) (Ft.refl F2 _) HF1.out HF2.out).1
                  have hall := blk_lt hal
                  have s5 := HFX.out.size
                  obtain ⟨r0, r1, r2, r3, r4, r5, r6, r7⟩ := eight hal
                  clear hal
                  go_wp2_with (go_at_call 12; refine (latchkeylaw20_session.calls 100 kd u d z h raw reg nw _ _ _ _ _ _ _ (HS.out 100 (Nat.le_refl _))).mono ?_; rintro e wD ⟨v2, rfl, hv2, hb2⟩; obtain ⟨A2, c2, rfl⟩ := Kd.R_slice hv2; have HVD := Aside0.mk hv2; have HBD1 := Aside0.mk hb2; clear hv2 hb2)
                  have hk2 : ∀ k, F2 k → k < wr.heap.size := fun k hk => by have h1 := (HF2.out k hk).2; omega
                  have hB2 := HB2.out.step (w' := wr) (fun k hk hlt => (HFX.out.block k (by omega) (fun h => by have h1 := (HF2.out k hk).2; have h2 := h.1; omega)).trans ((HFC.out.block k (by omega) (fun h => HF3.out k h hk)).trans ((HBB.out.block k (by omega)).trans (HBA1.out.block k hlt))))
                  have HK2 := Aside0.mk hk2
                  have HBK2 := Aside0.mk hB2
                  clear hk2 hB2
                  go_wp2_with (go_at_call 13; refine (rbegin_drawn F2 g2 w.heap.size room life last' now l s.f0 s.f1 s.f3 s.f4 s.f5 A2 c2 s.f2 wr wD HBK2.out HK2.out (by have h1 := HBD.out.2.2; omega) HBD1.out HVD.out HBD.out.1 HBD.out.2.1 _ HO.out).mono ?_; rintro e wE ⟨rfl, hbE, hfE⟩; have HBE := Aside0.mk hbE; have HFE := Aside0.mk hfE; clear hbE hfE)
                  go_meet
                  exact ⟨now, last2, l2, rfl, ⟨two_begun (l := l) (last' := last') HBD2.out HBL.out HBA.out HBA1.out HBB.out HFC.out HFX.out HBD1.out HFE.out HF1.out HF2.out HF3.out HBC.out HBE.out⟩, ⟨(begun_kept HXA.out (Nat.le_refl _) HBA1.out HBB.out HFC.out HFX.out HBD1.out HFE.out HF1.out HF2.out).2⟩⟩
        case rest =>
          obtain ⟨now', last'', l', rfl, HTc, HXc⟩ := hcut
          obtain ⟨F1, F2, hbd, hb1, hb2, hf1, hf2, hf3, hbl⟩ := HTc.out
          obtain ⟨r0, r1, r2, r3, r4, r5, r6, r7⟩ := eight HXc.out
          have hlc := blk_lt HXc.out
          have hlen : l'.length ≤ 1000 := by omega
          have HB1 := Aside0.mk hb1
          have HB2 := Aside0.mk hb2
          have HLN := Aside0.mk hlen
          clear hbd hb1 hb2 hf1 hf2 hf3 hbl hlen
          go_upto_region 33 with (fail)
          have HRC := Aside0.mk r7
          go_cut [151] from 39 to 152 (fun s151 wx => s151 = .bool false ∧ Aside0 (Below wc.heap.size wc wx))
          case first =>
            go_region_held3 (fun w' => w'.cell? ⟨wr.heap.size, 7, none⟩ = some (.int .u64 nw)) (first | exact rA | exact rB | exact rC | exact rD | go_keep) (first | (go_at_call 17; refine (rlive_calls F2 g2 w.heap.size room life last'' nw l' wC (HB2.out.step (fun k _ hk => HBC1.out.block k hk)) (by have := HLN.out; omega)).mono ?_; rintro e wD ⟨rfl, hD⟩; have HBD1 := Aside0.mk (HBC1.out.trans (hD.mono HBC1.out.size)); clear hD; have rD := (HBD1.out.cell (p := ⟨wr.heap.size, 7, none⟩) hlc).trans HRC.out) | (go_at_call 16; refine (live_calls F1 g1 w.heap.size room life last'' nw l' wB (HB1.out.step (fun k _ hk => HBB1.out.block k hk)) (by have := HLN.out; omega)).mono ?_; rintro e wC ⟨rfl, hC⟩; have HBC1 := Aside0.mk (HBB1.out.trans (hC.mono HBB1.out.size)); clear hC; have rC := (HBC1.out.cell (p := ⟨wr.heap.size, 7, none⟩) hlc).trans HRC.out; have hlC := Nat.lt_of_lt_of_le hlc HBC1.out.size) | (go_at_call 17; refine (rlive_calls F2 g2 w.heap.size room life last'' now' l' wA (HB2.out.step (fun k _ hk => HBA1.out.block k hk)) (by have := HLN.out; omega)).mono ?_; rintro e wB ⟨rfl, hB⟩; have HBB1 := Aside0.mk (HBA1.out.trans (hB.mono HBA1.out.size)); clear hB; have rB := (HBB1.out.cell (p := ⟨wr.heap.size, 7, none⟩) hlc).trans HRC.out; have hlB := Nat.lt_of_lt_of_le hlc HBB1.out.size) | (go_at_call 16; refine (live_calls F1 g1 w.heap.size room life last'' now' l' wc.drew (HB1.out.step (fun k _ _ => rfl)) (by have := HLN.out; omega)).mono ?_; rintro e wA ⟨rfl, hA⟩; have HBA1 := Aside0.mk (Below.trans (below_drew (Below.refl _ _)) hA : Below wc.heap.size wc wA); clear hA; have rA := (HBA1.out.cell (p := ⟨wr.heap.size, 7, none⟩) hlc).trans HRC.out; have hlA := Nat.lt_of_lt_of_le hlc HBA1.out.size))
            all_goals (go_wp2_with fail; go_meet; exact ⟨rfl, ⟨HBD1.out⟩⟩)
          case rest =>
            obtain ⟨rfl, HBx⟩ := hcut
            go_wp2
            go_roundg (n - (i + 1))
            case measure => omega
            case rel => exact ⟨i + 1, now', last'', l', by omega, by omega, by omega, by push_cast; rfl, rfl, ⟨HTc.out.below HBx.out (Nat.le_refl _)⟩⟩
    · have hltz : ¬ (i : Int) < (n : Int) := by omega
      have hltq : decide ((i : Int) < (n : Int)) = false := decide_eq_false hltz
      have hbl : Below w.heap.size w wr := by
        obtain ⟨F1, F2, -, -, -, -, -, -, hbl⟩ := HTW.out
        exact hbl
      have HBL := Aside0.mk hbl
      clear hbl
      go_wp2
      go_ret
      exact ⟨rfl, HBL.out⟩
end Go.Proofs.Ytphbpcmncelkhaa.Sess
