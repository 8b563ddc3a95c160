/- (*sha.Hash).block. -/
import Derived.Test.YtocnkfepiknglaaShaI
import Derived.Shelf.GgClosure.Gives
import Derived.Outline
import Derived.Deep.DeepMust
namespace Go.Proofs.Ytocnkfepiknglaa.PAll
open Go.RowKit Go.Shelf Go.Proofs.YtocnkfepiknglaaW.PrintWords Go.Proofs.YtocnkfepiknglaaW.PrintLast Go.Proofs.YtocnkfepiknglaaW.PrintMore
set_option linter.unusedVariables false
set_option linter.unusedSimpArgs false

theorem hcells9 {w : World} {g : Nat} {t : TypeId} {a b c d e f h i j k l : Value} (hh : w.heap[g]? = some (.cells #[a, b, c, d, e, f, h, i, j, k, l] t (0, 0))) :
    w.cell? ⟨g, 0, none⟩ = some a ∧ w.cell? ⟨g, 1, none⟩ = some b ∧ w.cell? ⟨g, 2, none⟩ = some c ∧ w.cell? ⟨g, 3, none⟩ = some d ∧ w.cell? ⟨g, 4, none⟩ = some e ∧ w.cell? ⟨g, 5, none⟩ = some f ∧ w.cell? ⟨g, 6, none⟩ = some h ∧ w.cell? ⟨g, 7, none⟩ = some i ∧ w.cell? ⟨g, 8, none⟩ = some j :=
  ⟨(blk_cell hh 0).trans rfl, (blk_cell hh 1).trans rfl, (blk_cell hh 2).trans rfl, (blk_cell hh 3).trans rfl, (blk_cell hh 4).trans rfl, (blk_cell hh 5).trans rfl, (blk_cell hh 6).trans rfl, (blk_cell hh 7).trans rfl, (blk_cell hh 8).trans rfl⟩
theorem cells8 {w : World} {g : Nat} {t : TypeId} {a b c d e f h i : Value} (hh : w.heap[g]? = some (.cells #[a, b, c, d, e, f, h, i] t (0, 0))) :
    w.cell? ⟨g, 0, none⟩ = some a ∧ w.cell? ⟨g, 1, none⟩ = some b ∧ w.cell? ⟨g, 2, none⟩ = some c ∧ w.cell? ⟨g, 3, none⟩ = some d ∧ w.cell? ⟨g, 4, none⟩ = some e ∧ w.cell? ⟨g, 5, none⟩ = some f ∧ w.cell? ⟨g, 6, none⟩ = some h ∧ w.cell? ⟨g, 7, none⟩ = some i :=
  ⟨(blk_cell hh 0).trans rfl, (blk_cell hh 1).trans rfl, (blk_cell hh 2).trans rfl, (blk_cell hh 3).trans rfl, (blk_cell hh 4).trans rfl, (blk_cell hh 5).trans rfl, (blk_cell hh 6).trans rfl, (blk_cell hh 7).trans rfl⟩
theorem only_block2 {w : World} {base t n c : Nat} {ok : Nat → Prop} {K : IntKind} {e : TypeId} {xs : List Int} (h : Kd.R (Kd.int K) e w base ok (.slice (some ⟨t, 0, none⟩) n c) xs) : Kd.R (Kd.int K) e w base (fun k => k = t) (.slice (some ⟨t, 0, none⟩) n c) xs :=
  ⟨fun k hk => by simp [Value.ownBlock] at hk; exact hk.symm, h.2⟩
theorem grown_set {w W : World} {g i : Nat} (h : w.grownBy W (some g)) (v : Value) : w.grownBy (W.setCell ⟨g, i, none⟩ v).drew (some g) :=
  ⟨h.os, h.tape, h.output, by have := h.size; simpa [World.setCell, World.drew] using this, fun k hk hne => (Below.heap_setCell W ⟨g, i, none⟩ v k (fun e => hne (by rw [e]))).trans (h.block k hk hne)⟩
theorem far_drew {w : World} {a b : Addr} {v u : Value} (hne : a ≠ b) (h : w.cell? b = some u) : (w.setCell a v).drew.cell? b = some u := by
  show (w.setCell a v).cell? b = some u
  first | rw [World.cell?_setCell_other _ _ _ hne] | rw [World.cell?_setCell_other _ _ _ _ hne] | rw [World.cell?_setCell_other _ _ hne] | simp [World.cell?_setCell_other, hne]
  exact h

set_option maxHeartbeats 8000000 in
set_option maxRecDepth 100000 in
theorem block_calls (g r off t ct : Nat) (b : List Int) (hb : ∀ i, i < 64 → 0 ≤ rd b i ∧ rd b i ≤ 255) (w : World) (hrb : ∀ i, i < 64 → w.cell? ⟨r, off + i, none⟩ = some (.int .u8 (rd b i))) (hr : r < w.heap.size) (s : St) (rv : Value) (sz : Int) (hh : w.heap[g]? = some (.cells #[.int .u32 s.a, .int .u32 s.b, .int .u32 s.c, .int .u32 s.d, .int .u32 s.e, .int .u32 s.f, .int .u32 s.g, .int .u32 s.h, .slice (some ⟨t, 0, none⟩) 64 ct, rv, .int .u64 sz] 49 (0, 0))) (K : List Int) (hK : ∀ i, i < 64 → w.cell? ⟨t, i, none⟩ = some (.int .u32 (rd K i))) (ht : t < w.heap.size) :
    Calls Try.prog 20 #[.pointer (some ⟨g, 0, none⟩), .slice (some ⟨r, off, none⟩) 64 64] w fun e w' => e = .returned (.tuple #[]) ∧ w'.heap[g]? = some (.cells #[.int .u32 (blk K s b).a, .int .u32 (blk K s b).b, .int .u32 (blk K s b).c, .int .u32 (blk K s b).d, .int .u32 (blk K s b).e, .int .u32 (blk K s b).f, .int .u32 (blk K s b).g, .int .u32 (blk K s b).h, .slice (some ⟨t, 0, none⟩) 64 ct, rv, .int .u64 sz] 49 (0, 0)) ∧ w.grownBy w' (some g) := by
  have hu46 := Try.underlying46
  have hu49 := Try.underlying49
  have HB0 := Aside0.mk (Below.refl w.heap.size w)
  have HRB := Aside0.mk hrb
  have HBY := Aside0.mk hb
  have HH := Aside0.mk hh
  have HK := Aside0.mk hK
  have hgl := blk_lt hh
  clear hrb hb hh hK
  go_enter Try.func20, Try.ntmps20
  go_wp2_with ((with_reducible refine gate_dst (N := 18) rfl ?_); refine Kd.R_make (Kd.int .u32) _ 43 rfl (N := 18) rfl 39 _ _ rfl 64 rfl rfl Try.underlying39 (.int .u32 0) 4 info43 rfl (by decide) (by omega) 0 (ok := fun _ => True) (okp := fun _ => True) rfl (fun _ hk => hk) trivial (by decide) (by decide) (Below.refl _ _) (Nat.le_refl _) ?_; intro v1 w1 ho hb hg_ hnew_; clear hg_ hnew_; have HO := Aside0.mk ho; have HB := Aside0.mk hb; clear ho hb)
  obtain ⟨gw, cw, rfl, hgw1, hgw2, cells, hcells⟩ := Kd.R_form HO.out (by decide)
  have HO0 : Aside0 (Kd.R (Kd.int .u32) 43 w1 w.heap.size (fun _ => True) (.slice (some ⟨gw, 0, none⟩) 64 cw) (sched1 b 0)) := HO
  rw [show (List.replicate (Int.toNat 64) (0 : Int)).length = 64 from rfl]
  clear HO
  go_loopg [19] 16 (fun gg s19 wr => ∃ (i : Nat), i ≤ 16 ∧ 16 - i ≤ gg ∧ s19 = .int .i64 i ∧ Aside0 (Kd.R (Kd.int .u32) 43 wr w.heap.size (fun _ => True) (.slice (some ⟨gw, 0, none⟩) 64 cw) (sched1 b i)) ∧ Aside0 (Below w.heap.size w wr))
  case atStart => exact ⟨0, by omega, by omega, rfl, HO0, HB⟩
  case round =>
    clear HO0 HB
    obtain ⟨i, hi, hgg, rfl, HX, HBX⟩ := hrel
    by_cases hlt : i < 16
    · have hltz : (i : Int) < 16 := by omega
      obtain ⟨hc1, hc2⟩ := Kd.R_celln (0 : Int) HX.out (i : Int) (by omega) (by omega)
      rw [Int.toNat_natCast] at hc1 hc2
      have k0 := (HBX.out.cell (p := ⟨r, off + (4 * i), none⟩) hr).trans (HRB.out (4 * i) (by omega))
      have k1 := (HBX.out.cell (p := ⟨r, off + (4 * i + 1), none⟩) hr).trans (HRB.out (4 * i + 1) (by omega))
      have k2 := (HBX.out.cell (p := ⟨r, off + (4 * i + 2), none⟩) hr).trans (HRB.out (4 * i + 2) (by omega))
      have k3 := (HBX.out.cell (p := ⟨r, off + (4 * i + 3), none⟩) hr).trans (HRB.out (4 * i + 3) (by omega))
      have hm1 := Aside0.mk (show 16 - (i + 1) < gk by omega)
      go_upto_region 4 with (fail)
      go_region
      go_wp2
      go_roundg (16 - (i + 1))
      case measure => exact hm1.out
      case rel =>
        have hp := (Kd.R_putg HX.out (i : Int) (word b i)).1
        rw [Int.toNat_natCast] at hp
        exact ⟨i + 1, hlt, Nat.le_refl _, by push_cast; rfl, ⟨Kd.R_drew hp⟩, ⟨below_drew (below_set HBX.out hgw1)⟩⟩
    · have hi16 : i = 16 := by omega
      subst hi16
      go_wp2
      go_loopg [7] 48 (fun gg s7 wq => ∃ (j : Nat) (xs : List Int), 16 ≤ j ∧ j ≤ 64 ∧ 64 - j ≤ gg ∧ s7 = .int .i64 j ∧ Aside0 (xs = sched2 b (j - 16)) ∧ Aside0 (Kd.R (Kd.int .u32) 43 wq w.heap.size (fun _ => True) (.slice (some ⟨gw, 0, none⟩) 64 cw) xs) ∧ Aside0 (Below w.heap.size w wq))
      case atStart => exact ⟨16, _, by omega, by omega, by omega, rfl, ⟨rfl⟩, HX, HBX⟩
      case round =>
        obtain ⟨j, xs, hj0, hj, hgg, rfl, HL, HX, HBX⟩ := hrel
        by_cases hlt : j < 64
        · have hltz : (j : Int) < 64 := by omega
          have hjz : (16 : Int) ≤ (j : Int) := by omega
          obtain ⟨hc1, hc2⟩ := Kd.R_celln (0 : Int) HX.out (j : Int) (by omega) (by omega)
          rw [Int.toNat_natCast] at hc1 hc2
          have hd : ∀ m : Nat, m ≤ 16 → 1 ≤ m → wr.cell? ⟨gw, j - m, none⟩ = some (.int .u32 (rdOf 0 xs ((j - m : Nat) : Int))) := fun m h1 h2 => by
            have := (Kd.R_celln (0 : Int) HX.out ((j - m : Nat) : Int) (by omega) (by omega)).1
            rw [Int.toNat_natCast] at this
            exact this
          have k15 := hd 15 (by omega) (by omega)
          have k2 := hd 2 (by omega) (by omega)
          have k16 := hd 16 (by omega) (by omega)
          have k7 := hd 7 (by omega) (by omega)
          clear hd
          go_upto_region 10 with (fail)
          go_quiet (fail)
          obtain ⟨x, hx⟩ : ∃ x, x = rdOf (0 : Int) xs ((j - 15 : Nat) : Int) := ⟨_, rfl⟩
          obtain ⟨y, hy⟩ : ∃ y, y = rdOf (0 : Int) xs ((j - 2 : Nat) : Int) := ⟨_, rfl⟩
          rw [← hx, ← hy]
          have HXY := Aside0.mk (And.intro hx hy)
          clear hx hy
          have hwv : Aside0 (Kd.R (Kd.int .u32) 43 (wr.drewN nq) w.heap.size (fun _ => True) (.slice (some ⟨gw, 0, none⟩) 64 cw) xs) := ⟨Kd.R_drewN HX.out _⟩
          have hwb : Aside0 (Below w.heap.size w (wr.drewN nq)) := ⟨pw_below_drewN HBX.out _⟩
          have q16 : (wr.drewN nq).cell? ⟨gw, j - 16, none⟩ = _ := k16
          have q7 : (wr.drewN nq).cell? ⟨gw, j - 7, none⟩ = _ := k7
          have qj : (wr.drewN nq).cell? ⟨gw, j, none⟩ = _ := hc1
          have qf : (wr.drewN nq).frozen? ⟨gw, j, none⟩ = _ := hc2
          clear k15 k2 k16 k7 hc1 hc2
          generalize wr.drewN nq = wv at hwv hwb q16 q7 qj qf ⊢
          go_upto_region 11 with (fail)
          have hb16 : (0 : Int) ≤ (j : Int) - 16 := by omega
          have hc16 : (j : Int) - 16 < 64 := by omega
          have hb7 : (0 : Int) ≤ (j : Int) - 7 := by omega
          have hj7 : (7 : Int) ≤ (j : Int) := by omega
          have hc7 : (j : Int) - 7 < 64 := by omega
          have ht16 : ((j : Int) - 16).toNat = j - 16 := by omega
          have ht7 : ((j : Int) - 7).toNat = j - 7 := by omega
          have hbj : (0 : Int) ≤ (j : Int) := by omega
          have hne16 : (⟨gw, j, none⟩ : Addr) ≠ ⟨gw, j - 16, none⟩ := fun e => by injection e with _ e; omega
          have hne7 : (⟨gw, j, none⟩ : Addr) ≠ ⟨gw, j - 7, none⟩ := fun e => by injection e with _ e; omega
          have hm1 := Aside0.mk (show 64 - (j + 1) < gk by omega)
          have hj2 : j + 1 ≤ 64 := hlt
          have hw16 : IntKind.i64.wrap ((j : Int) - 16) = (j : Int) - 16 := by rw [IntKind.wrap_i64]; omega
          have hw7 : IntKind.i64.wrap ((j : Int) - 7) = (j : Int) - 7 := by rw [IntKind.wrap_i64]; omega
          have hv16 : wrap64 ((j : Int) - 16) = (j : Int) - 16 := by unfold wrap64; omega
          have hv7 : wrap64 ((j : Int) - 7) = (j : Int) - 7 := by unfold wrap64; omega
          go_region_held3 (fun w' => w'.cell? ⟨gw, j - 16, none⟩ = some (.int .u32 (rdOf 0 xs ((j - 16 : Nat) : Int))) ∧ w'.cell? ⟨gw, j - 7, none⟩ = some (.int .u32 (rdOf 0 xs ((j - 7 : Nat) : Int)))) (first | exact ⟨q16, q7⟩ | exact ⟨far_drew hne16 q16, far_drew hne7 q7⟩ | go_keep) (first | (go_at_call 26; (with_reducible refine (rot_same x (-7) rlOk7 _).mono ?_); rintro e w' ⟨rfl, rfl⟩) | (go_at_call 26; (with_reducible refine (rot_same x (-18) rlOk18 _).mono ?_); rintro e w' ⟨rfl, rfl⟩) | (go_at_call 26; (with_reducible refine (rot_same y (-17) rlOk17 _).mono ?_); rintro e w' ⟨rfl, rfl⟩) | (go_at_call 26; (with_reducible refine (rot_same y (-19) rlOk19 _).mono ?_); rintro e w' ⟨rfl, rfl⟩))
          go_wp2
          go_roundg (64 - (j + 1))
          case measure => exact hm1.out
          case rel =>
            have hp := (Kd.R_putg hwv.out (j : Int) (mix xs j)).1
            rw [Int.toNat_natCast] at hp
            refine ⟨j + 1, xs.set j (mix xs j), Nat.le_succ_of_le hj0, hj2, Nat.le_refl _, by push_cast; rfl, ⟨?_⟩, ⟨Kd.R_drew ?_⟩, ⟨below_drew (below_set hwb.out hgw1)⟩⟩
            · rw [HL.out]; exact (sched2_next b j hj0).symm
            · rw [HXY.out.1, HXY.out.2]; exact hp
        · have hj64 : j = 64 := by omega
          subst hj64
          have hhr := (HBX.out.block g hgl).trans HH.out
          obtain ⟨m0, m1, m2, m3, m4, m5, m6, m7, m8⟩ := hcells9 hhr
          have hgr := blk_lt hhr
          go_wp2
          obtain ⟨w5, hw5, hx5, hb5⟩ : ∃ W, W = wr.alloc (.cells #[.int .u32 s.a, .int .u32 s.b, .int .u32 s.c, .int .u32 s.d, .int .u32 s.e, .int .u32 s.f, .int .u32 s.g, .int .u32 s.h] 46) ∧ W.heap[wr.heap.size]? = some (.cells #[.int .u32 s.a, .int .u32 s.b, .int .u32 s.c, .int .u32 s.d, .int .u32 s.e, .int .u32 s.f, .int .u32 s.g, .int .u32 s.h] 46 (0, 0)) ∧ Below wr.heap.size wr W := ⟨_, rfl, blk_new _ _, below_alloc (Below.refl _ _) _⟩
          rw [← hw5]
          clear hw5
          have hbs : w.heap.size ≤ wr.heap.size := HBX.out.size
          have hgwr : gw < wr.heap.size := by
            obtain ⟨g', c', e', _, hl, _⟩ := Kd.R_form HX.out (by rw [HL.out, sched2_length]; decide)
            injection e' with e1 _ _
            injection e1 with e1
            injection e1 with e1 _
            rw [e1]; exact hl
          have HX5 := Aside0.mk hx5
          have HXW := Aside0.mk (only_block2 (Kd.R_below HX.out hb5))
          have HBW := Aside0.mk (HBX.out.trans (hb5.mono hbs))
          obtain ⟨W, hW⟩ : ∃ W, W = sched2 b 48 := ⟨_, rfl⟩
          have hWl : W.length = 64 := by rw [hW]; exact sched2_length b 48
          have HL2 : Aside0 (xs = W) := ⟨by rw [HL.out, hW]⟩
          have HW := Aside0.mk hW
          have HWL := Aside0.mk hWl
          clear m0 m1 m2 m3 m4 m5 m6 m7 m8 hx5 hb5 hW hWl
          generalize hbse : wr.heap.size = bs at *
          clear hbse
          go_loopg [118] 64 (fun gg s118 wq => ∃ k : Nat, k ≤ 64 ∧ 64 - k ≤ gg ∧ s118 = .int .i64 k ∧ Aside0 (wq.heap[bs]? = some (.cells (rnds K W s k).cells 46 (0, 0))) ∧ Aside0 (Kd.R (Kd.int .u32) 43 wq w.heap.size (fun k => k = gw) (.slice (some ⟨gw, 0, none⟩) 64 cw) xs) ∧ Aside0 (Below w.heap.size w wq))
          case atStart => exact ⟨0, by omega, by omega, rfl, HX5, HXW, HBW⟩
          case round =>
            obtain ⟨k, hk, hgk, rfl, HS, HX, HBX⟩ := hrel
            by_cases hkl : k < 64
            · have hkz : (k : Int) < 64 := by omega
              have hkz0 : (0 : Int) ≤ (k : Int) := by omega
              have tk := (HBX.out.cell (p := ⟨t, k, none⟩) ht).trans (HK.out k hkl)
              obtain ⟨hc1, hc2⟩ := Kd.R_celln (0 : Int) HX.out (k : Int) (by omega) (by omega)
              rw [Int.toNat_natCast] at hc1
              have hm1 := Aside0.mk (show 64 - (k + 1) < gk by omega)
              obtain ⟨v, hv⟩ : ∃ v, v = rnds K W s k := ⟨_, rfl⟩
              have hs8 := HS.out
              rw [← hv] at hs8
              have HV := Aside0.mk hv
              unfold St.cells at hs8
              obtain ⟨y0, y1, y2, y3, y4, y5, y6, y7⟩ := cells8 hs8
              have hbl := blk_lt hs8
              have hbf := blk_frozen hs8
              have HS8 := Aside0.mk hs8
              clear hv hc2 hs8 HS
              go_upto_region 16 with (fail)
              go_quiet (fail)
              have z0 : (wr.drewN nq).cell? ⟨bs, 0, none⟩ = _ := y0
              have z1 : (wr.drewN nq).cell? ⟨bs, 1, none⟩ = _ := y1
              have z2 : (wr.drewN nq).cell? ⟨bs, 2, none⟩ = _ := y2
              have z3 : (wr.drewN nq).cell? ⟨bs, 3, none⟩ = _ := y3
              have z4 : (wr.drewN nq).cell? ⟨bs, 4, none⟩ = _ := y4
              have z5 : (wr.drewN nq).cell? ⟨bs, 5, none⟩ = _ := y5
              have z6 : (wr.drewN nq).cell? ⟨bs, 6, none⟩ = _ := y6
              have z7 : (wr.drewN nq).cell? ⟨bs, 7, none⟩ = _ := y7
              have ztk : (wr.drewN nq).cell? ⟨t, k, none⟩ = _ := tk
              have zc1 : (wr.drewN nq).cell? ⟨gw, k, none⟩ = _ := hc1
              have zbl : bs < (wr.drewN nq).heap.size := hbl
              have ZS : Aside0 ((wr.drewN nq).heap[bs]? = some (.cells #[.int .u32 v.a, .int .u32 v.b, .int .u32 v.c, .int .u32 v.d, .int .u32 v.e, .int .u32 v.f, .int .u32 v.g, .int .u32 v.h] 46 (0, 0))) := HS8
              have ZX : Aside0 (Kd.R (Kd.int .u32) 43 (wr.drewN nq) w.heap.size (fun k => k = gw) (.slice (some ⟨gw, 0, none⟩) 64 cw) xs) := ⟨Kd.R_drewN HX.out _⟩
              have ZB : Aside0 (Below w.heap.size w (wr.drewN nq)) := ⟨pw_below_drewN HBX.out _⟩
              clear y0 y1 y2 y3 y4 y5 y6 y7 tk hc1 hbl hbf
              generalize wr.drewN nq = wv at z0 z1 z2 z3 z4 z5 z6 z7 ztk zc1 zbl ZS ZX ZB ⊢
              go_upto_region 17 with (fail)
              go_region_held3 (fun w' => w'.cell? ⟨bs, 5, none⟩ = some (.int .u32 v.f) ∧ w'.cell? ⟨bs, 6, none⟩ = some (.int .u32 v.g) ∧ w'.cell? ⟨bs, 7, none⟩ = some (.int .u32 v.h) ∧ w'.cell? ⟨gw, k, none⟩ = some (.int .u32 (rdOf 0 xs (k : Int)))) (first | exact ⟨z5, z6, z7, zc1⟩ | go_keep) (first | (go_at_call 26; (with_reducible refine (rot_same v.e (-6) rlOk6 _).mono ?_); rintro e w' ⟨rfl, rfl⟩) | (go_at_call 26; (with_reducible refine (rot_same v.e (-11) rlOk11 _).mono ?_); rintro e w' ⟨rfl, rfl⟩) | (go_at_call 26; (with_reducible refine (rot_same v.e (-25) rlOk25 _).mono ?_); rintro e w' ⟨rfl, rfl⟩))
              go_upto_region 18 with (fail)
              obtain ⟨o1, ho1⟩ : ∃ o1, o1 = one v (rd K (k : Int)) (rdOf 0 xs (k : Int)) := ⟨_, rfl⟩
              unfold one at ho1
              rw [← ho1]
              have HO1 := Aside0.mk ho1
              clear ho1
              have x0 : wv.drew.cell? ⟨bs, 0, none⟩ = _ := z0
              have x1 : wv.drew.cell? ⟨bs, 1, none⟩ = _ := z1
              have x2 : wv.drew.cell? ⟨bs, 2, none⟩ = _ := z2
              have x3 : wv.drew.cell? ⟨bs, 3, none⟩ = _ := z3
              have x4 : wv.drew.cell? ⟨bs, 4, none⟩ = _ := z4
              have x5 : wv.drew.cell? ⟨bs, 5, none⟩ = _ := z5
              have x6 : wv.drew.cell? ⟨bs, 6, none⟩ = _ := z6
              have x7 : wv.drew.cell? ⟨bs, 7, none⟩ = _ := z7
              have xbl : bs < wv.drew.heap.size := zbl
              have XS : Aside0 (wv.drew.heap[bs]? = some (.cells #[.int .u32 v.a, .int .u32 v.b, .int .u32 v.c, .int .u32 v.d, .int .u32 v.e, .int .u32 v.f, .int .u32 v.g, .int .u32 v.h] 46 (0, 0))) := ZS
              have XX : Aside0 (Kd.R (Kd.int .u32) 43 wv.drew w.heap.size (fun k => k = gw) (.slice (some ⟨gw, 0, none⟩) 64 cw) xs) := ⟨Kd.R_drew ZX.out⟩
              have XB : Aside0 (Below w.heap.size w wv.drew) := ⟨below_drew ZB.out⟩
              clear z0 z1 z2 z3 z4 z5 z6 z7 ztk zc1 zbl ZS ZX ZB
              generalize wv.drew = wu at x0 x1 x2 x3 x4 x5 x6 x7 xbl XS XX XB ⊢
              go_region_held3 (fun w' => w'.cell? ⟨bs, 1, none⟩ = some (.int .u32 v.b) ∧ w'.cell? ⟨bs, 2, none⟩ = some (.int .u32 v.c)) (first | exact ⟨x1, x2⟩ | go_keep) (first | (go_at_call 26; (with_reducible refine (rot_same v.a (-2) rlOk2 _).mono ?_); rintro e w' ⟨rfl, rfl⟩) | (go_at_call 26; (with_reducible refine (rot_same v.a (-13) rlOk13 _).mono ?_); rintro e w' ⟨rfl, rfl⟩) | (go_at_call 26; (with_reducible refine (rot_same v.a (-22) rlOk22 _).mono ?_); rintro e w' ⟨rfl, rfl⟩))
              have y0 : wu.drew.cell? ⟨bs, 0, none⟩ = _ := x0
              have y1 : wu.drew.cell? ⟨bs, 1, none⟩ = _ := x1
              have y2 : wu.drew.cell? ⟨bs, 2, none⟩ = _ := x2
              have y3 : wu.drew.cell? ⟨bs, 3, none⟩ = _ := x3
              have y4 : wu.drew.cell? ⟨bs, 4, none⟩ = _ := x4
              have y5 : wu.drew.cell? ⟨bs, 5, none⟩ = _ := x5
              have y6 : wu.drew.cell? ⟨bs, 6, none⟩ = _ := x6
              have y7 : wu.drew.cell? ⟨bs, 7, none⟩ = _ := x7
              have ybl : bs < wu.drew.heap.size := xbl
              have YS : Aside0 (wu.drew.heap[bs]? = some (.cells #[.int .u32 v.a, .int .u32 v.b, .int .u32 v.c, .int .u32 v.d, .int .u32 v.e, .int .u32 v.f, .int .u32 v.g, .int .u32 v.h] 46 (0, 0))) := XS
              have YX : Aside0 (Kd.R (Kd.int .u32) 43 wu.drew w.heap.size (fun k => k = gw) (.slice (some ⟨gw, 0, none⟩) 64 cw) xs) := ⟨Kd.R_drew XX.out⟩
              have YB : Aside0 (Below w.heap.size w wu.drew) := ⟨below_drew XB.out⟩
              clear x0 x1 x2 x3 x4 x5 x6 x7 xbl XS XX XB
              generalize wu.drew = wt at y0 y1 y2 y3 y4 y5 y6 y7 ybl YS YX YB ⊢
              have hfz := blk_frozen YS.out
              obtain ⟨o2, ho2⟩ : ∃ o2, o2 = two v := ⟨_, rfl⟩
              unfold two at ho2
              rw [← ho2]
              have HO2 := Aside0.mk ho2
              clear ho2
              go_wp2
              go_roundg (64 - (k + 1))
              case measure => exact hm1.out
              case rel =>
                refine ⟨k + 1, hkl, Nat.le_refl _, by push_cast; rfl, ⟨?_⟩, ⟨Kd.R_step YX.out (fun i hi hl => eight_far _ bs i ?_ _ _ _ _ _ _ _ _)⟩, ⟨eight_below YB.out hbs _ _ _ _ _ _ _ _⟩⟩
                · have e1 : rnds K W s (k + 1) = rnd v (rd K k) (rd W k) := by rw [HV.out]; rfl
                  rw [e1]
                  have e2 : one v (rd K k) (rd W k) = o1 := by rw [HO1.out, HL2.out]; rfl
                  have e3 : two v = o2 := by rw [HO2.out]; rfl
                  unfold rnd St.cells
                  rw [e2, e3]
                  exact eight_put1 YS.out _ _ _ _ _ _ _ _
                · intro e; rw [hi] at e; exact absurd e (Nat.ne_of_lt hgwr)
            · have hk64 : k = 64 := by omega
              subst hk64
              have hkq : decide (((64 : Nat) : Int) < 64) = false := by decide
              obtain ⟨z, hz⟩ : ∃ z, z = rnds K W s 64 := ⟨_, rfl⟩
              have hz8 := HS.out
              rw [← hz] at hz8
              unfold St.cells at hz8
              have HZ0 := Aside0.mk hz8
              have HZE := Aside0.mk hz
              have HG0 : Aside0 (wr.heap[g]? = some (.cells (stCells s z 0 (.slice (some ⟨t, 0, none⟩) 64 ct) rv sz) 49 (0, 0))) := ⟨(HBX.out.block g hgl).trans HH.out⟩
              have HGR0 : Aside0 (w.grownBy wr (some g)) := ⟨grown_of_below HBX.out _⟩
              have hbg : bs ≠ g := by omega
              clear hz hz8 HS
              go_wp2
              go_loopg [207] 8 (fun gg s207 wq => ∃ n : Nat, n ≤ 8 ∧ 8 - n ≤ gg ∧ s207 = .int .i64 n ∧ Aside0 (wq.heap[bs]? = some (.cells #[.int .u32 z.a, .int .u32 z.b, .int .u32 z.c, .int .u32 z.d, .int .u32 z.e, .int .u32 z.f, .int .u32 z.g, .int .u32 z.h] 46 (0, 0))) ∧ Aside0 (wq.heap[g]? = some (.cells (stCells s z n (.slice (some ⟨t, 0, none⟩) 64 ct) rv sz) 49 (0, 0))) ∧ Aside0 (w.grownBy wq (some g)))
              case atStart => exact ⟨0, by omega, by omega, rfl, HZ0, HG0, HGR0⟩
              case round =>
                obtain ⟨n, hn, hgn, rfl, HZ, HG, HGR⟩ := hrel
                clear HZ0 HG0 HGR0
                obtain ⟨b0, b1, b2, b3, b4, b5, b6, b7⟩ := cells8 HZ.out
                have hbl2 := blk_lt HZ.out
                have hgb2 : g ≠ bs := fun e => hbg e.symm
                have hcase : n = 8 ∨ n = 0 ∨ n = 1 ∨ n = 2 ∨ n = 3 ∨ n = 4 ∨ n = 5 ∨ n = 6 ∨ n = 7 := by omega
                have hm1 := Aside0.mk (show n < 8 → 8 - (n + 1) < gk by omega)
                rcases hcase with rfl | rfl | rfl | rfl | rfl | rfl | rfl | rfl | rfl
                · go_wp2
                  go_end0
                  refine ⟨rfl, ?_, HGR.out⟩
                  have h := HG.out
                  rw [HZE.out, HW.out] at h
                  exact h
                · have hg8 : wr.heap[g]? = some (.cells #[.int .u32 s.a, .int .u32 s.b, .int .u32 s.c, .int .u32 s.d, .int .u32 s.e, .int .u32 s.f, .int .u32 s.g, .int .u32 s.h, .slice (some ⟨t, 0, none⟩) 64 ct, rv, .int .u64 sz] 49 (0, 0)) := HG.out
                  obtain ⟨m0, m1, m2, m3, m4, m5, m6, m7, m8⟩ := hcells9 hg8
                  have hgf := blk_frozen hg8
                  have hgl2 := blk_lt hg8
                  have HG8 := Aside0.mk hg8
                  clear hg8
                  go_upto_region 24 with (fail)
                  go_region
                  go_wp2
                  go_roundg (8 - (0 + 1))
                  case measure => exact hm1.out (by decide)
                  case rel =>
                    refine ⟨1, by decide, by decide, rfl, ⟨(Below.heap_setCell _ _ _ bs hbg).trans HZ.out⟩, ⟨?_⟩, ⟨grown_set HGR.out _⟩⟩
                    have h1 := blk_set HG8.out 0 (.int .u32 ((s.a + z.a) % 4294967296))
                    have h2 : (wr.setCell ⟨g, 0, none⟩ (.int .u32 ((s.a + z.a) % 4294967296))).heap[g]? = some (.cells #[.int .u32 ((s.a + z.a) % 4294967296), .int .u32 s.b, .int .u32 s.c, .int .u32 s.d, .int .u32 s.e, .int .u32 s.f, .int .u32 s.g, .int .u32 s.h, .slice (some ⟨t, 0, none⟩) 64 ct, rv, .int .u64 sz] 49 (0, 0)) := by simpa using h1
                    exact h2
                · have hg8 : wr.heap[g]? = some (.cells #[.int .u32 ((s.a + z.a) % 4294967296), .int .u32 s.b, .int .u32 s.c, .int .u32 s.d, .int .u32 s.e, .int .u32 s.f, .int .u32 s.g, .int .u32 s.h, .slice (some ⟨t, 0, none⟩) 64 ct, rv, .int .u64 sz] 49 (0, 0)) := HG.out
                  obtain ⟨m0, m1, m2, m3, m4, m5, m6, m7, m8⟩ := hcells9 hg8
                  have hgf := blk_frozen hg8
                  have hgl2 := blk_lt hg8
                  have HG8 := Aside0.mk hg8
                  clear hg8
                  go_upto_region 24 with (fail)
                  go_region
                  go_wp2
                  go_roundg (8 - (1 + 1))
                  case measure => exact hm1.out (by decide)
                  case rel =>
                    refine ⟨2, by decide, by decide, rfl, ⟨(Below.heap_setCell _ _ _ bs hbg).trans HZ.out⟩, ⟨?_⟩, ⟨grown_set HGR.out _⟩⟩
                    have h1 := blk_set HG8.out 1 (.int .u32 ((s.b + z.b) % 4294967296))
                    have h2 : (wr.setCell ⟨g, 1, none⟩ (.int .u32 ((s.b + z.b) % 4294967296))).heap[g]? = some (.cells #[.int .u32 ((s.a + z.a) % 4294967296), .int .u32 ((s.b + z.b) % 4294967296), .int .u32 s.c, .int .u32 s.d, .int .u32 s.e, .int .u32 s.f, .int .u32 s.g, .int .u32 s.h, .slice (some ⟨t, 0, none⟩) 64 ct, rv, .int .u64 sz] 49 (0, 0)) := by simpa using h1
                    exact h2
                · have hg8 : wr.heap[g]? = some (.cells #[.int .u32 ((s.a + z.a) % 4294967296), .int .u32 ((s.b + z.b) % 4294967296), .int .u32 s.c, .int .u32 s.d, .int .u32 s.e, .int .u32 s.f, .int .u32 s.g, .int .u32 s.h, .slice (some ⟨t, 0, none⟩) 64 ct, rv, .int .u64 sz] 49 (0, 0)) := HG.out
                  obtain ⟨m0, m1, m2, m3, m4, m5, m6, m7, m8⟩ := hcells9 hg8
                  have hgf := blk_frozen hg8
                  have hgl2 := blk_lt hg8
                  have HG8 := Aside0.mk hg8
                  clear hg8
                  go_upto_region 24 with (fail)
                  go_region
                  go_wp2
                  go_roundg (8 - (2 + 1))
                  case measure => exact hm1.out (by decide)
                  case rel =>
                    refine ⟨3, by decide, by decide, rfl, ⟨(Below.heap_setCell _ _ _ bs hbg).trans HZ.out⟩, ⟨?_⟩, ⟨grown_set HGR.out _⟩⟩
                    have h1 := blk_set HG8.out 2 (.int .u32 ((s.c + z.c) % 4294967296))
                    have h2 : (wr.setCell ⟨g, 2, none⟩ (.int .u32 ((s.c + z.c) % 4294967296))).heap[g]? = some (.cells #[.int .u32 ((s.a + z.a) % 4294967296), .int .u32 ((s.b + z.b) % 4294967296), .int .u32 ((s.c + z.c) % 4294967296), .int .u32 s.d, .int .u32 s.e, .int .u32 s.f, .int .u32 s.g, .int .u32 s.h, .slice (some ⟨t, 0, none⟩) 64 ct, rv, .int .u64 sz] 49 (0, 0)) := by simpa using h1
                    exact h2
                · have hg8 : wr.heap[g]? = some (.cells #[.int .u32 ((s.a + z.a) % 4294967296), .int .u32 ((s.b + z.b) % 4294967296), .int .u32 ((s.c + z.c) % 4294967296), .int .u32 s.d, .int .u32 s.e, .int .u32 s.f, .int .u32 s.g, .int .u32 s.h, .slice (some ⟨t, 0, none⟩) 64 ct, rv, .int .u64 sz] 49 (0, 0)) := HG.out
                  obtain ⟨m0, m1, m2, m3, m4, m5, m6, m7, m8⟩ := hcells9 hg8
                  have hgf := blk_frozen hg8
                  have hgl2 := blk_lt hg8
                  have HG8 := Aside0.mk hg8
                  clear hg8
                  go_upto_region 24 with (fail)
                  go_region
                  go_wp2
                  go_roundg (8 - (3 + 1))
                  case measure => exact hm1.out (by decide)
                  case rel =>
                    refine ⟨4, by decide, by decide, rfl, ⟨(Below.heap_setCell _ _ _ bs hbg).trans HZ.out⟩, ⟨?_⟩, ⟨grown_set HGR.out _⟩⟩
                    have h1 := blk_set HG8.out 3 (.int .u32 ((s.d + z.d) % 4294967296))
                    have h2 : (wr.setCell ⟨g, 3, none⟩ (.int .u32 ((s.d + z.d) % 4294967296))).heap[g]? = some (.cells #[.int .u32 ((s.a + z.a) % 4294967296), .int .u32 ((s.b + z.b) % 4294967296), .int .u32 ((s.c + z.c) % 4294967296), .int .u32 ((s.d + z.d) % 4294967296), .int .u32 s.e, .int .u32 s.f, .int .u32 s.g, .int .u32 s.h, .slice (some ⟨t, 0, none⟩) 64 ct, rv, .int .u64 sz] 49 (0, 0)) := by simpa using h1
                    exact h2
                · have hg8 : wr.heap[g]? = some (.cells #[.int .u32 ((s.a + z.a) % 4294967296), .int .u32 ((s.b + z.b) % 4294967296), .int .u32 ((s.c + z.c) % 4294967296), .int .u32 ((s.d + z.d) % 4294967296), .int .u32 s.e, .int .u32 s.f, .int .u32 s.g, .int .u32 s.h, .slice (some ⟨t, 0, none⟩) 64 ct, rv, .int .u64 sz] 49 (0, 0)) := HG.out
                  obtain ⟨m0, m1, m2, m3, m4, m5, m6, m7, m8⟩ := hcells9 hg8
                  have hgf := blk_frozen hg8
                  have hgl2 := blk_lt hg8
                  have HG8 := Aside0.mk hg8
                  clear hg8
                  go_upto_region 24 with (fail)
                  go_region
                  go_wp2
                  go_roundg (8 - (4 + 1))
                  case measure => exact hm1.out (by decide)
                  case rel =>
                    refine ⟨5, by decide, by decide, rfl, ⟨(Below.heap_setCell _ _ _ bs hbg).trans HZ.out⟩, ⟨?_⟩, ⟨grown_set HGR.out _⟩⟩
                    have h1 := blk_set HG8.out 4 (.int .u32 ((s.e + z.e) % 4294967296))
                    have h2 : (wr.setCell ⟨g, 4, none⟩ (.int .u32 ((s.e + z.e) % 4294967296))).heap[g]? = some (.cells #[.int .u32 ((s.a + z.a) % 4294967296), .int .u32 ((s.b + z.b) % 4294967296), .int .u32 ((s.c + z.c) % 4294967296), .int .u32 ((s.d + z.d) % 4294967296), .int .u32 ((s.e + z.e) % 4294967296), .int .u32 s.f, .int .u32 s.g, .int .u32 s.h, .slice (some ⟨t, 0, none⟩) 64 ct, rv, .int .u64 sz] 49 (0, 0)) := by simpa using h1
                    exact h2
                · have hg8 : wr.heap[g]? = some (.cells #[.int .u32 ((s.a + z.a) % 4294967296), .int .u32 ((s.b + z.b) % 4294967296), .int .u32 ((s.c + z.c) % 4294967296), .int .u32 ((s.d + z.d) % 4294967296), .int .u32 ((s.e + z.e) % 4294967296), .int .u32 s.f, .int .u32 s.g, .int .u32 s.h, .slice (some ⟨t, 0, none⟩) 64 ct, rv, .int .u64 sz] 49 (0, 0)) := HG.out
                  obtain ⟨m0, m1, m2, m3, m4, m5, m6, m7, m8⟩ := hcells9 hg8
                  have hgf := blk_frozen hg8
                  have hgl2 := blk_lt hg8
                  have HG8 := Aside0.mk hg8
                  clear hg8
                  go_upto_region 24 with (fail)
                  go_region
                  go_wp2
                  go_roundg (8 - (5 + 1))
                  case measure => exact hm1.out (by decide)
                  case rel =>
                    refine ⟨6, by decide, by decide, rfl, ⟨(Below.heap_setCell _ _ _ bs hbg).trans HZ.out⟩, ⟨?_⟩, ⟨grown_set HGR.out _⟩⟩
                    have h1 := blk_set HG8.out 5 (.int .u32 ((s.f + z.f) % 4294967296))
                    have h2 : (wr.setCell ⟨g, 5, none⟩ (.int .u32 ((s.f + z.f) % 4294967296))).heap[g]? = some (.cells #[.int .u32 ((s.a + z.a) % 4294967296), .int .u32 ((s.b + z.b) % 4294967296), .int .u32 ((s.c + z.c) % 4294967296), .int .u32 ((s.d + z.d) % 4294967296), .int .u32 ((s.e + z.e) % 4294967296), .int .u32 ((s.f + z.f) % 4294967296), .int .u32 s.g, .int .u32 s.h, .slice (some ⟨t, 0, none⟩) 64 ct, rv, .int .u64 sz] 49 (0, 0)) := by simpa using h1
                    exact h2
                · have hg8 : wr.heap[g]? = some (.cells #[.int .u32 ((s.a + z.a) % 4294967296), .int .u32 ((s.b + z.b) % 4294967296), .int .u32 ((s.c + z.c) % 4294967296), .int .u32 ((s.d + z.d) % 4294967296), .int .u32 ((s.e + z.e) % 4294967296), .int .u32 ((s.f + z.f) % 4294967296), .int .u32 s.g, .int .u32 s.h, .slice (some ⟨t, 0, none⟩) 64 ct, rv, .int .u64 sz] 49 (0, 0)) := HG.out
                  obtain ⟨m0, m1, m2, m3, m4, m5, m6, m7, m8⟩ := hcells9 hg8
                  have hgf := blk_frozen hg8
                  have hgl2 := blk_lt hg8
                  have HG8 := Aside0.mk hg8
                  clear hg8
                  go_upto_region 24 with (fail)
                  go_region
                  go_wp2
                  go_roundg (8 - (6 + 1))
                  case measure => exact hm1.out (by decide)
                  case rel =>
                    refine ⟨7, by decide, by decide, rfl, ⟨(Below.heap_setCell _ _ _ bs hbg).trans HZ.out⟩, ⟨?_⟩, ⟨grown_set HGR.out _⟩⟩
                    have h1 := blk_set HG8.out 6 (.int .u32 ((s.g + z.g) % 4294967296))
                    have h2 : (wr.setCell ⟨g, 6, none⟩ (.int .u32 ((s.g + z.g) % 4294967296))).heap[g]? = some (.cells #[.int .u32 ((s.a + z.a) % 4294967296), .int .u32 ((s.b + z.b) % 4294967296), .int .u32 ((s.c + z.c) % 4294967296), .int .u32 ((s.d + z.d) % 4294967296), .int .u32 ((s.e + z.e) % 4294967296), .int .u32 ((s.f + z.f) % 4294967296), .int .u32 ((s.g + z.g) % 4294967296), .int .u32 s.h, .slice (some ⟨t, 0, none⟩) 64 ct, rv, .int .u64 sz] 49 (0, 0)) := by simpa using h1
                    exact h2
                · have hg8 : wr.heap[g]? = some (.cells #[.int .u32 ((s.a + z.a) % 4294967296), .int .u32 ((s.b + z.b) % 4294967296), .int .u32 ((s.c + z.c) % 4294967296), .int .u32 ((s.d + z.d) % 4294967296), .int .u32 ((s.e + z.e) % 4294967296), .int .u32 ((s.f + z.f) % 4294967296), .int .u32 ((s.g + z.g) % 4294967296), .int .u32 s.h, .slice (some ⟨t, 0, none⟩) 64 ct, rv, .int .u64 sz] 49 (0, 0)) := HG.out
                  obtain ⟨m0, m1, m2, m3, m4, m5, m6, m7, m8⟩ := hcells9 hg8
                  have hgf := blk_frozen hg8
                  have hgl2 := blk_lt hg8
                  have HG8 := Aside0.mk hg8
                  clear hg8
                  go_upto_region 24 with (fail)
                  go_region
                  go_wp2
                  go_roundg (8 - (7 + 1))
                  case measure => exact hm1.out (by decide)
                  case rel =>
                    refine ⟨8, by decide, by decide, rfl, ⟨(Below.heap_setCell _ _ _ bs hbg).trans HZ.out⟩, ⟨?_⟩, ⟨grown_set HGR.out _⟩⟩
                    have h1 := blk_set HG8.out 7 (.int .u32 ((s.h + z.h) % 4294967296))
                    have h2 : (wr.setCell ⟨g, 7, none⟩ (.int .u32 ((s.h + z.h) % 4294967296))).heap[g]? = some (.cells #[.int .u32 ((s.a + z.a) % 4294967296), .int .u32 ((s.b + z.b) % 4294967296), .int .u32 ((s.c + z.c) % 4294967296), .int .u32 ((s.d + z.d) % 4294967296), .int .u32 ((s.e + z.e) % 4294967296), .int .u32 ((s.f + z.f) % 4294967296), .int .u32 ((s.g + z.g) % 4294967296), .int .u32 ((s.h + z.h) % 4294967296), .slice (some ⟨t, 0, none⟩) 64 ct, rv, .int .u64 sz] 49 (0, 0)) := by simpa using h1
                    exact h2

end Go.Proofs.Ytocnkfepiknglaa.PAll
