/- Begin of the reference. -/
import Derived.Test.YtphbpcmncelkhaaBook9
set_option linter.unusedVariables false
set_option linter.unusedSimpArgs false
namespace Go.Proofs.Ytphbpcmncelkhaa.Sess
open Go.RowKit Go.Shelf Go.Proofs.YtphbpcmncelkhaaW.PrintWords Go.Proofs.YtphbpcmncelkhaaW.PrintLast Go.Proofs.YtphbpcmncelkhaaW.PrintMore
open Go.Proofs.Ytphbpcmncelkhaa.PSessPlays

theorem grown_below {W w1 : World} {base N : Nat} {v : Value} (hb : Below base W w1) (hg : W.grownBy w1 v.ownBlock) (ho : ∀ k, some k = v.ownBlock → N ≤ k) (hN : N ≤ W.heap.size) : Below N W w1 :=
  ⟨hb.os, hb.tape, hb.output, hb.size, fun k hk => hg.block k (by omega) (fun e => by have := ho k e; omega)⟩
theorem sweepS_take_yes (now : Int) (l : List S34) (k : Nat) (hk : k < l.length) (h : now < (l.getD k z34).f3) : sweepS now (l.take (k + 1)) = sweepS now (l.take k) ++ [l.getD k z34] := by
  have e : l[k]? = some (l.getD k z34) := getD_of hk
  unfold sweepS
  rw [List.take_add_one, List.filter_append, e]
  simp only [Option.toList_some, List.filter_cons, List.filter_nil]
  rw [if_pos (decide_eq_true h)]
theorem sweepS_take_no (now : Int) (l : List S34) (k : Nat) (hk : k < l.length) (h : ¬ now < (l.getD k z34).f3) : sweepS now (l.take (k + 1)) = sweepS now (l.take k) := by
  have e : l[k]? = some (l.getD k z34) := getD_of hk
  unfold sweepS
  rw [List.take_add_one, List.filter_append, e]
  simp only [Option.toList_some, List.filter_cons, List.filter_nil]
  rw [if_neg (by rw [decide_eq_false h]; simp), List.append_nil]

theorem begunFt2 {F : Nat → Prop} {w w5 wc w1 : World} {g base : Nat} {v : Value} (h5 : Ft F w w5) (hc : Ft (fun k => k = w.heap.size) w5 wc) (hb : Below base wc.drew w1) (hg : wc.drew.grownBy w1 v.ownBlock) (ho : ∀ k, some k = v.ownBlock → F k ∨ w.heap.size ≤ k) (hFg : F g) (u : Value) :
    Ft F w (w1.setCell ⟨g, 3, none⟩ u) := by
  have h1 : Ft F w wc.drew := (h5.trans hc (fun i hi => .inr (by omega))).drew
  have h2 : Ft (fun k => F k ∨ w.heap.size ≤ k) wc.drew w1 := ⟨hb.os, hb.tape, hb.output, hb.size, fun k hk hn => hg.block k hk (fun e => hn (ho k e))⟩
  exact (h1.trans h2 (fun i hi => hi)).setCell (p := ⟨g, 3, none⟩) (.inl hFg) u
theorem made2 {w5 w7 : World} {B n : Nat} {A6 : Option Addr} {c6 : Nat} {h e : Int} {u : ByteArray} {r a : Bool} {d : List Int} {x2 x3 : Value} (hB : B < w5.heap.size)
    (hV : (Kd.int .u8).R 5 w7 w5.heap.size (fun _ => True) (.slice A6 n c6) d) (hb : Below w5.heap.size w5 w7) (hs : w7.heap[B]? = some (.cells #[.int .u64 h, .string u, x2, x3, .bool r, .bool a] 34 (0, 0))) :
    MadeAt ((w7.setCell ⟨B, 2, none⟩ (.slice A6 n c6)).setCell ⟨B, 3, none⟩ (.int .u64 e)) w5 B n h e u r a d := by
  refine ⟨A6, c6, ?_, ?_, ?_⟩
  · have := blk_set (blk_set hs 2 (.slice A6 n c6)) 3 (.int .u64 e)
    simpa using this
  · have h1 : (Kd.int .u8).R 5 w7 w5.heap.size (fun k => w5.heap.size ≤ k) (.slice A6 n c6) d := Kd.R_mono (Kd.R_bound hV) (fun k hk => hk.2.1)
    refine Kd.R_step h1 (fun k hk _ => ?_)
    have hne : k ≠ B := fun e => by omega
    rw [Below.heap_setCell _ _ _ k hne, Below.heap_setCell _ _ _ k hne]
  · have h1 : Ft (fun k => k = B) w5 w7 := Ft.of_below hb _
    exact (h1.setCell (p := ⟨B, 2, none⟩) (.inl rfl) _).setCell (p := ⟨B, 3, none⟩) (.inl rfl) _
theorem MadeAt.again {wc w5 : World} {B n : Nat} {h e e' : Int} {u : ByteArray} {r a : Bool} {d : List Int} (hB : B < w5.heap.size) (hm : MadeAt wc w5 B n h e u r a d) : MadeAt (wc.setCell ⟨B, 3, none⟩ (.int .u64 e')) w5 B n h e' u r a d := by
  obtain ⟨A6, c6, h1, h2, h3⟩ := hm
  refine ⟨A6, c6, ?_, Kd.R_step h2 (fun k hk _ => Below.heap_setCell wc ⟨B, 3, none⟩ _ k (fun e => by have : k = B := e; omega)), h3.setCell (p := ⟨B, 3, none⟩) (.inl rfl) _⟩
  have := blk_set h1 3 (.int .u64 e')
  simpa using this

set_option maxHeartbeats 8000000 in
set_option maxRecDepth 100000 in
theorem rbegin_calls (F okS : Nat → Prop) (g base baseS : Nat) (room life last now : Int) (l : List S34) (x : Cs) (s : S34) (w : World) (hB : BookAt w base F g 45 room life last l) (hF : ∀ k, F k → k < w.heap.size) (hn : l.length ≤ 1000000)
    (hS : SessM w baseS okS x s) (hO : ∀ k, okS k → ¬ F k) (hl0 : 0 ≤ last) (hl1 : last ≤ 18446744073709551615) :
    Calls Try.prog 13 #[.pointer (some ⟨g, 0, none⟩), x.agg, .int .u64 now] w fun e w' => e = .returned (.tuple #[.int .u64 (beginS room life last l s now).1, .int .i64 (beginS room life last l s now).2.1]) ∧
      BookAt w' base (fun k => F k ∨ w.heap.size ≤ k) g 45 room life (beginS room life last l s now).2.2.1 (beginS room life last l s now).2.2.2 ∧ Ft F w w' := by
  obtain ⟨v, hb, hFg, hbg, hR⟩ := hB
  have hlt := blk_lt hb
  have hne : g ≠ w.heap.size := by omega
  obtain ⟨xh, xe, xu, xA, xn, xc, xr, xa⟩ := x
  have HS := Aside0.mk hS
  obtain ⟨k0, k1, k3, k4, k5, k6, k7⟩ := hS
  simp only at k0 k1 k3 k4 k5 k6 k7
  subst k1 k6
  have hr5 := Aside0.mk (show xr = s.f4 from k4)
  have hr6 := Aside0.mk (show xa = s.f5 from k5)
  obtain ⟨W1, hW1⟩ : ∃ W1, W1 = w.alloc (.cells #[.int .u64 xh, .string s.f1, .slice xA s.f2.length xc, .int .u64 xe, .bool xr, .bool xa] 34) := ⟨_, rfl⟩
  have hBel : Below w.heap.size w W1 := by rw [hW1]; exact below_alloc (Below.refl _ _) _
  have hsz1 : W1.heap.size = w.heap.size + 1 := by rw [hW1]; simp
  have HSX := Aside0.mk (show W1.heap[w.heap.size]? = some (.cells #[.int .u64 xh, .string s.f1, .slice xA s.f2.length xc, .int .u64 xe, .bool xr, .bool xa] 34 (0, 0)) by rw [hW1]; exact blk_new _ _)
  have HB1 := Aside0.mk ((hBel.block g hlt).trans hb)
  have HK1 := Aside0.mk (Kd.R_below (Kd.R_mono (ok' := fun j => okS j ∧ j < w.heap.size) (Kd.R_bound k7) (fun j hj => ⟨hj.1, hj.2.2.1⟩)) hBel)
  obtain ⟨A0, c0, rfl⟩ := Kd.R_slice hR
  have HR1 := Aside0.mk (Kd.R_below hR hBel)
  have HF := Aside0.mk hF
  have HO := Aside0.mk hO
  have HBel := Aside0.mk hBel
  have HS1 := Aside0.mk hsz1
  have HW1 := Aside0.mk hW1
  obtain ⟨n, hnn⟩ : ∃ n, n = l.length := ⟨_, rfl⟩
  have HN := Aside0.mk hnn
  rw [← hnn] at hn hb
  have hgl1 : g < W1.heap.size := by omega
  clear hR hF hO hBel hsz1 hb k0 k3 k4 k5 k7 hnn
  simp only [Cs.agg]
  go_enter Try.func13, Try.ntmps13
  go_wp2
  rw [← hW1]
  clear hW1
  go_loopg [8, 9] n (fun gg s8 s9 wr => ∃ (k : Nat) (v : Value), v = s8 ∧ k ≤ n ∧ n - k ≤ gg ∧ s9 = .int .i64 k ∧ Aside0 (Below W1.heap.size W1 wr) ∧ Aside0 (∀ j, some j = s8.ownBlock → W1.heap.size ≤ j) ∧ Aside0 (k34.R 34 wr base (fun j => (F j ∨ w.heap.size < j) ∧ j ≠ g) s8 (sweepS now (l.take k))))
  case atStart => exact ⟨0, _, rfl, Nat.zero_le _, by omega, rfl, ⟨Below.refl _ _⟩, ⟨fun j hj => by simp [Value.ownBlock] at hj⟩, ⟨Kd.R_nil _ _ _ _ _⟩⟩
  case round =>
    obtain ⟨k, v, rfl, hk, hgg, rfl, BW, HOW, HRw⟩ := hrel
    have bk := (BW.out.block g hgl1).trans HB1.out
    rw [← HN.out] at bk
    obtain ⟨b0, b1, b2, b3⟩ := four bk
    have bz := blk_frozen bk
    have HBK := Aside0.mk bk
    have hszr := BW.out.size
    clear bk
    by_cases hlt2 : k < n
    · have hltz : (k : Int) < (n : Int) := by omega
      have hkl : k < l.length := by have := HN.out; omega
      rcases row_of_R (Kd.R_below HR1.out BW.out) with ⟨_, hnil⟩ | ⟨g2, cap, f, hv, hrow, hcm, hb2, hg2, hM⟩
      · rw [hnil] at hkl; exact absurd hkl (Nat.not_lt_zero _)
      injection hv with hv1 hv2 hv3
      subst hv1 hv3
      obtain ⟨l0, l1, l2, l3, l4, l5⟩ := hrow.cell k (by have := HN.out; omega)
      have hm := hM k _ (getD_of hkl)
      have hg2w := HF.out g2 hg2.1
      have hgg2 : g ≠ g2 := fun h => hg2.2 h.symm
      clear hM hcm hv2
      have hrl := hrow.lt
      clear hrow
      generalize f k = x at l0 l1 l2 l3 l4 l5 hm
      have HX3 := Aside0.mk hm.2.2.1
      have HM1 := Aside0.mk (show k34.M wr base (fun j => (F j ∧ j ≠ g) ∧ j < w.heap.size) (l.getD k z34) x.cells from (hm.mono (fun j hj => ⟨hj.1, HF.out j hj.1.1⟩)).M)
      clear hm
      by_cases hq : x.e > now
      · have hqb : decide (now < x.e) = true := decide_eq_true hq
        have hokp : ∀ j, (F j ∧ j ≠ g) ∧ j < w.heap.size → ((F j ∨ w.heap.size < j) ∧ j ≠ g) ∧ some j ≠ v.ownBlock := fun j hj => ⟨⟨.inl hj.1.1, hj.1.2⟩, fun e => by have := HOW.out j e; have := hj.2; have := HS1.out; omega⟩
        have hfresh : ∀ j, wr.heap.size ≤ j → (F j ∨ w.heap.size < j) ∧ j ≠ g := fun j hj => by
          have := HS1.out
          exact ⟨.inr (by omega), by omega⟩
        have hbase : base ≤ wr.heap.size := by omega
        have hlen : (sweepS now (l.take k)).length ≤ k := Nat.le_trans (List.length_filter_le _ _) (by simp; omega)
        have hl64 : ((sweepS now (l.take k)).length + 1) * 64 ≤ 140737488355328 := by omega
        have HP1 := Aside0.mk hokp
        have HP2 := Aside0.mk hfresh
        clear hokp hfresh
        go_wp2_with ((with_reducible refine gate_builtin (b := .append) (xs := #[.tmp 30, .tmp 38]) rfl ?_); at_builtin; refine Kd.R_append k34 (w0 := wr) (W := wr) base rfl (.tmp 30) (.tmp 38) 43 34 _ 64 rfl Try.underlying43 info34 rfl (by decide) (by decide) v (sweepS now (l.take k)) (l.getD k z34) x.cells (fun j => (F j ∨ w.heap.size < j) ∧ j ≠ g) (fun j => (F j ∧ j ≠ g) ∧ j < w.heap.size) rfl rfl HM1.out HP1.out HP2.out HRw.out (Below.refl _ _) hbase hl64 ?_; intro v1 w1 hR1 hB1 hg1 hat1; have HA1 := Aside0.mk hR1; have HA2 := Aside0.mk hB1; have HA3 := Aside0.mk hg1; have HA4 := Aside0.mk hat1; clear hR1 hB1 hg1 hat1)
        go_roundg (n - (k + 1))
        case measure => omega
        case rel =>
          have hS := HS1.out
          refine ⟨k + 1, v1, rfl, by omega, by omega, by go_num, ⟨?_⟩, ⟨fun j hj => ?_⟩, ⟨?_⟩⟩
          · exact BW.out.trans (grown_below HA2.out HA3.out HOW.out (by omega))
          · rcases HA4.out with e | ⟨b, e, hbb⟩
            · rw [e] at hj
              exact HOW.out j hj
            · rw [e] at hj
              injection hj with hj
              omega
          · rw [sweepS_take_yes now l k hkl (by rw [← HX3.out]; exact hq)]
            exact HA1.out
      · have hqb : decide (now < x.e) = false := decide_eq_false hq
        go_wp2
        go_roundg (n - (k + 1))
        case measure => omega
        case rel =>
          refine ⟨k + 1, v, rfl, by omega, by omega, by go_num, BW, HOW, ⟨?_⟩⟩
          rw [sweepS_take_no now l k hkl (by rw [← HX3.out]; omega)]
          exact HRw.out
    · have hltz : ¬ (k : Int) < (n : Int) := by omega
      have : k = n := by omega
      subst this
      have hL : sweepS now (l.take k) = sweepS now l := by rw [HN.out, List.take_length]
      have hR8 := HRw.out
      rw [hL] at hR8
      have hL1 : (sweepS now l).length ≤ 1000000 := by
        have h1 : (sweepS now l).length ≤ l.length := List.length_filter_le _ _
        have := HN.out
        omega
      clear hL HRw
      obtain ⟨L, hLL⟩ : ∃ L, L = sweepS now l := ⟨_, rfl⟩
      have HLL := Aside0.mk hLL
      rw [← hLL] at hR8 hL1
      clear hLL
      obtain ⟨A8, c8, rfl⟩ := Kd.R_slice hR8
      have hg8 : ∀ j, some j = (Value.slice A8 L.length c8).ownBlock → W1.heap.size ≤ j := HOW.out
      have HR8 := Aside0.mk hR8
      clear hR8
      go_upto_region 8 with (fail)
      generalize hW2 : wr.setCell { block := g, off := 3 } (Value.slice A8 L.length c8) = w2
      have hS1 := HS1.out
      have hbk2 : w2.heap[g]? = some (.cells #[.int .i64 room, .int .u64 life, .int .u64 last, .slice A8 L.length c8] 45 (0, 0)) := by
        rw [← hW2]
        exact blk_set HBK.out 3 _
      have hfar2 : ∀ j, j ≠ g → w2.heap[j]? = wr.heap[j]? := fun j hj => by rw [← hW2]; exact Below.heap_setCell wr _ _ j hj
      have hsx2 := (hfar2 w.heap.size (fun e => hne e.symm)).trans ((BW.out.block _ (by omega)).trans HSX.out)
      have hK2 := Kd.R_step (Kd.R_below HK1.out BW.out) (fun j hj _ => hfar2 j (fun e => HO.out j hj.1 (by rw [e]; exact hFg)))
      have hR2 := Kd.R_step HR8.out (fun j hj _ => hfar2 j hj.2)
      have hF2 : Ft F w w2 := by
        rw [← hW2]
        exact (((Ft.of_below HBel.out F).trans (Ft.of_below BW.out (fun _ => False)) (fun _ h => h.elim))).setCell (p := ⟨g, 3, none⟩) (.inl hFg) _
      have hbook : BookAt w2 base (fun k => F k ∨ w.heap.size ≤ k) g 45 room life last L := ⟨_, hbk2, .inl hFg, hbg, Kd.R_mono hR2 (fun j hj => ⟨hj.1.imp id Nat.le_of_lt, hj.2⟩)⟩
      obtain ⟨A7, c7, hA7, hc7, hC2⟩ := Kd.R_reads hK2
      injection hA7 with hA71 hA72 hA73
      rw [← hA71] at hC2
      obtain ⟨e0, e1, e2, e3⟩ := four hbk2
      obtain ⟨p0, p1, p2, p3, p4, p5, p6⟩ := six hsx2
      have e6 := blk_frozen hbk2
      have HBK2 := Aside0.mk hbk2
      have HSX2 := Aside0.mk hsx2
      have HR2 := Aside0.mk hR2
      have HK2 := Aside0.mk hK2
      have HF2 := Aside0.mk hF2
      have HBook := Aside0.mk hbook
      have HC2 := Aside0.mk hC2
      have HW2 := Aside0.mk hW2
      clear hbk2 hfar2 hsx2 hK2 hR2 hF2 hbook hA71 hA72 hA73 hc7 hC2 hW2 b0 b1 b2 b3 bz
      cases c1 : s.f1.toList.isEmpty with
      | true =>
        have he : Aside0 (beginS room life last l s now = (0, 89, last, L)) := ⟨by unfold beginS; rw [if_pos (.inl c1), HLL.out]⟩
        go_wp2
        go_ret2
        rw [he.out]
        exact ⟨rfl, HBook.out, HF2.out⟩
      | false =>
        by_cases c2 : 64 < (s.f1.size : Int)
        · have he : Aside0 (beginS room life last l s now = (0, 89, last, L)) := ⟨by unfold beginS; rw [if_pos (.inr c2), HLL.out]⟩
          go_wp2
          go_ret2
          rw [he.out]
          exact ⟨rfl, HBook.out, HF2.out⟩
        · have n1 : Aside0 (¬ (s.f1.toList.isEmpty = true ∨ 64 < (s.f1.size : Int))) := ⟨by rw [c1]; rintro (h | h); cases h; exact c2 h⟩
          by_cases c3 : (s.f2.length : Int) < 16
          · have he : Aside0 (beginS room life last l s now = (0, 81, last, L)) := ⟨by unfold beginS; rw [if_neg n1.out, if_pos (.inl c3), HLL.out]⟩
            go_wp2
            go_ret2
            rw [he.out]
            exact ⟨rfl, HBook.out, HF2.out⟩
          · by_cases c4 : 64 < (s.f2.length : Int)
            · have he : Aside0 (beginS room life last l s now = (0, 81, last, L)) := ⟨by unfold beginS; rw [if_neg n1.out, if_pos (.inr c4), HLL.out]⟩
              go_wp2
              go_ret2
              rw [he.out]
              exact ⟨rfl, HBook.out, HF2.out⟩
            · have n2 : Aside0 (¬ ((s.f2.length : Int) < 16 ∨ 64 < (s.f2.length : Int))) := ⟨by rintro (h | h); exact c3 h; exact c4 h⟩
              go_wp2
              have hg2l : g < w2.heap.size := blk_lt HBK2.out
              have hB2l : w.heap.size < w2.heap.size := blk_lt HSX2.out
              clear e0 e1 e2 e3 e6 p0 p1 p2 p3 p4 p5 p6
              go_loopg [10] L.length (fun gg s10 wq => ∃ (q : Nat), q ≤ L.length ∧ L.length - q ≤ gg ∧ s10 = .int .i64 q ∧ Aside0 (Below w2.heap.size w2 wq) ∧ Aside0 (∀ j, j < q → sameD (L.getD j z34).f2 s.f2 = false))
              case atStart => exact ⟨0, Nat.zero_le _, by omega, rfl, ⟨Below.refl _ _⟩, ⟨fun j hj => absurd hj (Nat.not_lt_zero _)⟩⟩
              case round =>
                obtain ⟨q, hq, hgq, rfl, BQ, HNo⟩ := hrel
                have HBKq := Aside0.mk ((BQ.out.block g hg2l).trans HBK2.out)
                have HSXq := Aside0.mk ((BQ.out.block _ hB2l).trans HSX2.out)
                have HRq := Aside0.mk (Kd.R_below HR2.out BQ.out)
                have HCq := Aside0.mk (Kd.C_below HC2.out BQ.out)
                obtain ⟨p0, p1, p2, p3, p4, p5, p6⟩ := six HSXq.out
                by_cases hlq : q < L.length
                · have hlz : (q : Int) < (L.length : Int) := by omega
                  rcases row_of_R HRq.out with ⟨hv, hnil⟩ | ⟨g8, cap8, f8, hv, hrow8, hcm8, hb8, hg88, hM8⟩
                  · rw [hnil] at hlq; exact absurd hlq (Nat.not_lt_zero _)
                  · injection hv with hv1 hv2 hv3
                    subst hv1 hv3
                    obtain ⟨l0, l1, l2, l3, l4, l5⟩ := hrow8.cell q hlq
                    have hm8 := hM8 q _ (getD_of hlq)
                    generalize f8 q = y8 at l0 l1 l2 l3 l4 l5 hm8
                    obtain ⟨m0, m1, m3, m4, m5, m6, m7⟩ := hm8
                    rw [m6] at l2
                    obtain ⟨A9, c9, hA9, hc9, hC9⟩ := Kd.R_reads m7
                    injection hA9 with hA91 hA92 hA93
                    rw [← hA91] at hC9
                    have hcv1 := Kd.C_string (P := Try.prog) (A := y8.dA) (c := y8.dc) Try.underlying22 Try.underlying5 Try.underlying9 (Kd.C_below hC9 (below_drew (Below.refl _ _)))
                    have hcv2 := Kd.C_string (P := Try.prog) (A := xA) (c := xc) Try.underlying22 Try.underlying5 Try.underlying9 (Kd.C_below HCq.out (below_drew (Below.refl _ _)))
                    clear m0 m1 m3 m4 m5 m6 m7 hA91 hA92 hA93 hc9 hC9 hrow8 hcm8 hM8
                    cases hsd : sameD (L.getD q z34).f2 s.f2 with
                    | true =>
                      have hsd' : ((strOfNums (L.getD q z34).f2).toList == (strOfNums s.f2).toList) = true := hsd
                      have hany : (sweepS now l).any (fun y => sameD y.f2 s.f2) = true := by
                        rw [← HLL.out]
                        exact List.any_eq_true.2 ⟨L.getD q z34, List.mem_of_getElem? (getD_of hlq), hsd⟩
                      have he : Aside0 (beginS room life last l s now = (0, 82, last, L)) := ⟨by unfold beginS; rw [if_neg n1.out, if_neg n2.out, if_pos hany, HLL.out]⟩
                      clear hany hsd
                      generalize (L.getD q z34).f2 = d8 at *
                      go_wp2
                      go_region
                      go_wp2
                      go_ret2
                      rw [he.out]
                      exact ⟨rfl, HBook.out.step (fun j _ hj => BQ.out.block j hj), (HF2.out.trans (Ft.of_below BQ.out (fun _ => False)) (fun _ h => h.elim)).drew⟩
                    | false =>
                      have hsd' : ((strOfNums (L.getD q z34).f2).toList == (strOfNums s.f2).toList) = false := hsd
                      have HSD := Aside0.mk hsd
                      clear hsd
                      obtain ⟨d8, hd8⟩ : ∃ d8, d8 = (L.getD q z34).f2 := ⟨_, rfl⟩
                      rw [← hd8] at hcv1 hsd' l2
                      clear hd8
                      go_wp2
                      go_region
                      go_wp2
                      go_roundg (L.length - (q + 1))
                      case measure => omega
                      case rel =>
                        refine ⟨q + 1, by omega, by omega, by go_num, ⟨below_drew BQ.out⟩, ⟨fun j hj => ?_⟩⟩
                        by_cases e : j = q
                        · rw [e]; exact HSD.out
                        · exact HNo.out j (by omega)
                · have hlz : ¬ (q : Int) < (L.length : Int) := by omega
                  have : q = L.length := by omega
                  subst this
                  have hanyF : (sweepS now l).any (fun y => sameD y.f2 s.f2) = false := by
                    rw [← HLL.out, List.any_eq_false]
                    intro y hy
                    obtain ⟨j, hj, rfl⟩ := List.mem_iff_getElem.1 hy
                    have := HNo.out j hj
                    rw [List.getD_eq_getElem?_getD, List.getElem?_eq_getElem hj] at this
                    simpa using this
                  have n3 : Aside0 (¬ (((sweepS now l).any fun y => sameD y.f2 s.f2) = true)) := ⟨by rw [hanyF]; simp⟩
                  clear hanyF
                  obtain ⟨e0, e1, e2, e3⟩ := four HBKq.out
                  have e6 := blk_frozen HBKq.out
                  by_cases c5 : room ≤ (L.length : Int)
                  · have he : Aside0 (beginS room life last l s now = (0, 83, last, L)) := ⟨by unfold beginS; rw [if_neg n1.out, if_neg n2.out, if_neg n3.out, ← HLL.out, if_pos c5]⟩
                    go_wp2
                    go_ret2
                    rw [he.out]
                    exact ⟨rfl, HBook.out.step (fun j _ hj => BQ.out.block j hj), (HF2.out.trans (Ft.of_below BQ.out (fun _ => False)) (fun _ h => h.elim))⟩
                  · by_cases c6 : last = 18446744073709551615
                    · have he : Aside0 (beginS room life last l s now = (0, 84, last, L)) := ⟨by unfold beginS; rw [if_neg n1.out, if_neg n2.out, if_neg n3.out, ← HLL.out, if_neg c5, if_pos c6]⟩
                      have c6b : (last == 18446744073709551615) = true := by rw [c6]; rfl
                      clear c6
                      go_wp2
                      go_ret2
                      rw [he.out]
                      exact ⟨rfl, HBook.out.step (fun j _ hj => BQ.out.block j hj), (HF2.out.trans (Ft.of_below BQ.out (fun _ => False)) (fun _ h => h.elim))⟩
                    · have he : Aside0 (beginS room life last l s now = (last + 1, 0, last + 1, L ++ [newS s (last + 1) (endsS life now)])) := ⟨by unfold beginS; rw [if_neg n1.out, if_neg n2.out, if_neg n3.out, ← HLL.out, if_neg c5, if_neg c6]⟩
                      have c6b : (last == 18446744073709551615) = false := beq_eq_false_iff_ne.2 c6
                      have hwr : IntKind.u64.wrap (last + 1) = last + 1 := by rw [IntKind.wrap_u64]; omega
                      clear c6
                      go_upto_region 23 with (fail)
                      generalize hW5 : (wr.setCell { block := g, off := 2 } (Value.int IntKind.u64 (last + 1))).setCell { block := w.heap.size, off := 0 } (Value.int IntKind.u64 (last + 1)) = w5
                      have hbk5 : w5.heap[g]? = some (.cells #[.int .i64 room, .int .u64 life, .int .u64 (last + 1), .slice A8 L.length c8] 45 (0, 0)) := by
                        rw [← hW5]
                        exact (Below.heap_setCell _ _ _ g hne).trans (blk_set HBKq.out 2 _)
                      have hfar5 : ∀ j, j ≠ g → j ≠ w.heap.size → w5.heap[j]? = wr.heap[j]? := fun j hj hj2 => by rw [← hW5]; exact (Below.heap_setCell _ _ _ j hj2).trans (Below.heap_setCell _ _ _ j hj)
                      have hsx5 : w5.heap[w.heap.size]? = some (.cells #[.int .u64 (last + 1), .string s.f1, .slice xA s.f2.length xc, .int .u64 xe, .bool xr, .bool xa] 34 (0, 0)) := by
                        rw [← hW5]
                        exact blk_set ((Below.heap_setCell _ _ _ _ (fun e => hne e.symm)).trans HSXq.out) 0 _
                      have hK5 := Kd.R_step (Kd.R_below HK2.out BQ.out) (fun j hj _ => hfar5 j (fun e => HO.out j hj.1 (by rw [e]; exact hFg)) (Nat.ne_of_lt hj.2))
                      have HR5 := Aside0.mk (Kd.R_step HRq.out (fun j hj _ => hfar5 j hj.2 (fun e => by rcases hj.1 with h | h; have := HF.out j h; omega; omega)))
                      obtain ⟨A7', c7', hA7', hc7', hC5⟩ := Kd.R_reads hK5
                      injection hA7' with hA71 hA72 hA73
                      rw [← hA71] at hC5
                      have HF5 : Aside0 (Ft F w w5) := ⟨by
                        rw [← hW5]
                        exact ((HF2.out.trans (Ft.of_below BQ.out (fun _ => False)) (fun _ h => h.elim)).setCell (p := ⟨g, 2, none⟩) (.inl hFg) _).setCell (p := ⟨w.heap.size, 0, none⟩) (.inr (Nat.le_refl _)) _⟩
                      have HBK5 := Aside0.mk hbk5
                      have HSX5 := Aside0.mk hsx5
                      have HC5 := Aside0.mk hC5
                      have hsz5 : w.heap.size < w5.heap.size := blk_lt hsx5
                      have hszg : g < w5.heap.size := blk_lt hbk5
                      have hx6 : s.f2.length ≤ 1000000 := by omega
                      have hx7 : 1 ≤ s.f2.length := by omega
                      clear hK5 hC5 hA71 hA72 hA73 hc7' hfar5 hsx5 hbk5 hW5 e0 e1 e2 e3 e6 p0 p1 p2 p3 p4 p5 p6
                      obtain ⟨e0, e1, e2, e3⟩ := four HBK5.out
                      obtain ⟨p0, p1, p2, p3, p4, p5, p6⟩ := six HSX5.out
                      clear hq hgq hlq hlz hk hgg hltz
                      go_upto_region 24 with (first | ((with_reducible refine gate_dst (N := 104) rfl ?_); refine Kd.R_lit (Kd.int .u8) _ 5 ?hg (N := 104) ?hd (xs := ([] : List Int)) (inner := []) (ok := fun _ => True) (okp := fun _ => True) ?hr ?hp (fun _ hk => hk) trivial (Below.refl _ _) (Nat.le_refl _) (by simp) ?_; (case hd => rfl); (case hg => rfl); (case hr => first | (go_simp; done) | (go_simp; rfl)); (case hp => exact (Reps.none _ _)); intro v1 w1 ho1 hb1 hg_ hnew_; clear hg_ hnew_; have f2 := (show w1.cell? ⟨w.heap.size, 2, none⟩ = some (.slice xA s.f2.length xc) from (blk_cell ((hb1.block _ hsz5).trans HSX5.out) 2)); have HOq := Aside0.mk ho1; have HBq := Aside0.mk hb1; clear ho1 hb1) | ((with_reducible refine gate_builtin (b := .append) (xs := #[.tmp 104, .tmp 106]) rfl ?_); at_builtin; refine Kd.R_append_rows (Kd.int .u8) (w0 := w5) w5.heap.size rfl (.tmp 104) (.tmp 106) 22 5 (.int .u8 0) 1 rfl Try.underlying22 info5 rfl (by decide) (by omega) v1 [] s.f2 _ _ _ (fun _ => True) (fun _ => False) rfl rfl ?aO ?aR (fun _ _ h => h) (fun _ h => h.elim) ?aF ?aB ?aS ?aL ?_; (case aR => exact Kd.C_below HC5.out HBq.out); (case aB => exact HBq.out); (case aF => exact fun _ _ => trivial); (case aO => exact HOq.out); (case aS => exact HBq.out.size); (case aL => simp; omega); intro v2 w2' ho hb hg hat; rw [List.nil_append] at ho; obtain ⟨A6, c6, rfl⟩ := Kd.R_slice ho; have hbk6 := (hb.block g hszg).trans HBK5.out; have hsx6 := (hb.block _ hsz5).trans HSX5.out; obtain ⟨r0, r1, r2, r3⟩ := four hbk6; obtain ⟨s0, s1, s2, s3, s4, s5, s6⟩ := six hsx6; have HV6 := Aside0.mk ho; have HB6 := Aside0.mk hb; have HSX6 := Aside0.mk hsx6; clear ho hb hg hat HOq HBq hbk6 hsx6))
                      by_cases hend : now ≤ IntKind.u64.wrap (now + life)
                      · have hcmp : decide (IntKind.u64.wrap (now + life) < now) = false := decide_eq_false (by omega)
                        have hE : Aside0 (endsS life now = IntKind.u64.wrap (now + life)) := ⟨by unfold endsS; rw [if_pos hend]⟩
                        go_upto_region 27 with (fail)
                        have HMade := Aside0.mk (made2 (h := last + 1) (e := IntKind.u64.wrap (now + life)) hsz5 HV6.out HB6.out HSX6.out)
                        generalize (w2'.setCell { block := w.heap.size, off := 2 } (Value.slice A6 s.f2.length c6)).setCell { block := w.heap.size, off := 3 } (Value.int IntKind.u64 (IntKind.u64.wrap (now + life))) = wc at HMade ⊢
                        rw [← hE.out] at HMade
                        clear hend hcmp
                        obtain ⟨A16, c16, hsx, hv, hft⟩ := HMade.out
                        have hbkc := hft.blk HBK5.out hne
                        obtain ⟨f0, f1, f2, f3⟩ := four hbkc
                        have ffz := blk_frozen hbkc
                        obtain ⟨t0, t1, t2, t3, t4, t5, t6⟩ := six hsx
                        have hszc := hft.size
                        have hRc : k34.R 34 wc.drew base (fun k => (F k ∨ w.heap.size ≤ k) ∧ k ≠ g) (.slice A8 L.length c8) L :=
                          Kd.R_drew (Kd.R_mono (Kd.R_step HR5.out (fun k hk hlt => hft.block k hlt (fun e => by rcases hk.1 with h | h; (have := HF.out k h; omega); omega))) (fun k hk => ⟨hk.1.imp id Nat.le_of_lt, hk.2⟩))
                        have hown : ∀ k, some k = (Value.slice A8 L.length c8).ownBlock → w.heap.size < k ∧ k < w5.heap.size := fun k hk => ⟨by have := hg8 k hk; omega, Kd.R_lt HR5.out k hk.symm⟩
                        have hMd : k34.M wc.drew base (fun k => w5.heap.size ≤ k) (newS s (last + 1) (endsS life now)) [.int .u64 (last + 1), .string s.f1, .slice A16 s.f2.length c16, .int .u64 (endsS life now), .bool s.f4, .bool s.f5] :=
                          k34_mkM wc.drew base (fun k => w5.heap.size ≤ k) (newS s (last + 1) (endsS life now)) (Kd.R_drew (Kd.R_lower hv (by omega)))
                        rw [← hr5.out, ← hr6.out] at hMd
                        have hokp : ∀ k, w5.heap.size ≤ k → ((F k ∨ w.heap.size ≤ k) ∧ k ≠ g) ∧ some k ≠ (Value.slice A8 L.length c8).ownBlock := fun k hk =>
                          ⟨⟨.inr (by omega), by omega⟩, fun e => by have := (hown k e).2; omega⟩
                        have hfresh : ∀ k, wc.drew.heap.size ≤ k → (F k ∨ w.heap.size ≤ k) ∧ k ≠ g := fun k hk => by
                          have : wc.heap.size ≤ k := hk
                          exact ⟨.inr (by omega), by omega⟩
                        have hbase2 : base ≤ wc.drew.heap.size := by
                          show base ≤ wc.heap.size
                          omega
                        have hl : (L.length + 1) * 64 ≤ 140737488355328 := by omega
                        have hgd : g < wc.drew.heap.size := blk_lt hbkc
                        have hgd2 : g < wc.heap.size := blk_lt hbkc
                        have hgd3 : w.heap.size < wc.heap.size := blk_lt hsx
                        have hgd4 : g ≠ wc.heap.size := Nat.ne_of_lt hgd2
                        have hgd5 : w.heap.size ≠ wc.heap.size := Nat.ne_of_lt hgd3
                        have hgo : some g ≠ (Value.slice A8 L.length c8).ownBlock := fun e => by have := (hown g e).1; omega
                        have HRc := Aside0.mk hRc
                        have HMd := Aside0.mk hMd
                        have HBKc := Aside0.mk hbkc
                        have HFt := Aside0.mk hft
                        have HOwn := Aside0.mk hown
                        have HSXc := Aside0.mk hsx
                        have HP1 := Aside0.mk hokp
                        have HP2 := Aside0.mk hfresh
                        clear hRc hMd hbkc hft hown hsx hv hokp hfresh e0 e1 e2 e3 p0 p1 p2 p3 p4 p5 p6 r0 r1 r2 r3 s0 s1 s2 s3 s4 s5 s6
                        go_region_law (refine Kd.R_append_step k34 (w0 := wc.drew) (W := wc.drew) base rfl (.tmp 125) (.tmp 127) 43 34 _ 64 rfl Try.underlying43 info34 rfl (by decide) (by decide) (.slice A8 L.length c8) L (newS s (last + 1) (endsS life now)) [.int .u64 (last + 1), .string s.f1, .slice A16 s.f2.length c16, .int .u64 (endsS life now), .bool xr, .bool xa] (fun k => (F k ∨ w.heap.size ≤ k) ∧ k ≠ g) (fun k => w5.heap.size ≤ k) rfl rfl HMd.out HP1.out HP2.out HRc.out (Below.refl _ _) hbase2 hl ?_; intro v1 w1 hR1 hB1 hg1 hat1; obtain ⟨A10, c10, rfl⟩ := Kd.R_slice hR1; rw [List.length_append, List.length_singleton] at hR1; have hbk1 := (hg1.block g hgd hgo).trans HBKc.out; have g1z := blk_frozen hbk1; obtain ⟨g10, g11, g12, g13⟩ := four hbk1; have HBK1 := Aside0.mk hbk1; have HR1' := Aside0.mk hR1; have HB1' := Aside0.mk hB1; have HG1 := Aside0.mk hg1; clear hbk1 hR1 hB1 hg1 hat1)
                        all_goals (go_wp2; go_ret2; rw [he.out]; exact ⟨rfl, begun HBK1.out HR1'.out hFg hbg, begunFt2 HF5.out HFt.out HB1'.out HG1.out (fun k hk => .inr (Nat.le_of_lt (HOwn.out k hk).1)) hFg _⟩)
                      · have hcmp : decide (IntKind.u64.wrap (now + life) < now) = true := decide_eq_true (by omega)
                        have hE : Aside0 (endsS life now = 18446744073709551615) := ⟨by unfold endsS; rw [if_neg hend]⟩
                        go_upto_region 27 with (fail)
                        have HMade := Aside0.mk ((made2 (h := last + 1) (e := IntKind.u64.wrap (now + life)) hsz5 HV6.out HB6.out HSX6.out).again (e' := 18446744073709551615) hsz5)
                        generalize ((w2'.setCell { block := w.heap.size, off := 2 } (Value.slice A6 s.f2.length c6)).setCell { block := w.heap.size, off := 3 } (Value.int IntKind.u64 (IntKind.u64.wrap (now + life)))).setCell { block := w.heap.size, off := 3 } (Value.int IntKind.u64 18446744073709551615) = wc at HMade ⊢
                        rw [← hE.out] at HMade
                        clear hend hcmp
                        obtain ⟨A16, c16, hsx, hv, hft⟩ := HMade.out
                        have hbkc := hft.blk HBK5.out hne
                        obtain ⟨f0, f1, f2, f3⟩ := four hbkc
                        have ffz := blk_frozen hbkc
                        obtain ⟨t0, t1, t2, t3, t4, t5, t6⟩ := six hsx
                        have hszc := hft.size
                        have hRc : k34.R 34 wc.drew base (fun k => (F k ∨ w.heap.size ≤ k) ∧ k ≠ g) (.slice A8 L.length c8) L :=
                          Kd.R_drew (Kd.R_mono (Kd.R_step HR5.out (fun k hk hlt => hft.block k hlt (fun e => by rcases hk.1 with h | h; (have := HF.out k h; omega); omega))) (fun k hk => ⟨hk.1.imp id Nat.le_of_lt, hk.2⟩))
                        have hown : ∀ k, some k = (Value.slice A8 L.length c8).ownBlock → w.heap.size < k ∧ k < w5.heap.size := fun k hk => ⟨by have := hg8 k hk; omega, Kd.R_lt HR5.out k hk.symm⟩
                        have hMd : k34.M wc.drew base (fun k => w5.heap.size ≤ k) (newS s (last + 1) (endsS life now)) [.int .u64 (last + 1), .string s.f1, .slice A16 s.f2.length c16, .int .u64 (endsS life now), .bool s.f4, .bool s.f5] :=
                          k34_mkM wc.drew base (fun k => w5.heap.size ≤ k) (newS s (last + 1) (endsS life now)) (Kd.R_drew (Kd.R_lower hv (by omega)))
                        rw [← hr5.out, ← hr6.out] at hMd
                        have hokp : ∀ k, w5.heap.size ≤ k → ((F k ∨ w.heap.size ≤ k) ∧ k ≠ g) ∧ some k ≠ (Value.slice A8 L.length c8).ownBlock := fun k hk =>
                          ⟨⟨.inr (by omega), by omega⟩, fun e => by have := (hown k e).2; omega⟩
                        have hfresh : ∀ k, wc.drew.heap.size ≤ k → (F k ∨ w.heap.size ≤ k) ∧ k ≠ g := fun k hk => by
                          have : wc.heap.size ≤ k := hk
                          exact ⟨.inr (by omega), by omega⟩
                        have hbase2 : base ≤ wc.drew.heap.size := by
                          show base ≤ wc.heap.size
                          omega
                        have hl : (L.length + 1) * 64 ≤ 140737488355328 := by omega
                        have hgd : g < wc.drew.heap.size := blk_lt hbkc
                        have hgd2 : g < wc.heap.size := blk_lt hbkc
                        have hgd3 : w.heap.size < wc.heap.size := blk_lt hsx
                        have hgd4 : g ≠ wc.heap.size := Nat.ne_of_lt hgd2
                        have hgd5 : w.heap.size ≠ wc.heap.size := Nat.ne_of_lt hgd3
                        have hgo : some g ≠ (Value.slice A8 L.length c8).ownBlock := fun e => by have := (hown g e).1; omega
                        have HRc := Aside0.mk hRc
                        have HMd := Aside0.mk hMd
                        have HBKc := Aside0.mk hbkc
                        have HFt := Aside0.mk hft
                        have HOwn := Aside0.mk hown
                        have HSXc := Aside0.mk hsx
                        have HP1 := Aside0.mk hokp
                        have HP2 := Aside0.mk hfresh
                        clear hRc hMd hbkc hft hown hsx hv hokp hfresh e0 e1 e2 e3 p0 p1 p2 p3 p4 p5 p6 r0 r1 r2 r3 s0 s1 s2 s3 s4 s5 s6
                        go_region_law (refine Kd.R_append_step k34 (w0 := wc.drew) (W := wc.drew) base rfl (.tmp 125) (.tmp 127) 43 34 _ 64 rfl Try.underlying43 info34 rfl (by decide) (by decide) (.slice A8 L.length c8) L (newS s (last + 1) (endsS life now)) [.int .u64 (last + 1), .string s.f1, .slice A16 s.f2.length c16, .int .u64 (endsS life now), .bool xr, .bool xa] (fun k => (F k ∨ w.heap.size ≤ k) ∧ k ≠ g) (fun k => w5.heap.size ≤ k) rfl rfl HMd.out HP1.out HP2.out HRc.out (Below.refl _ _) hbase2 hl ?_; intro v1 w1 hR1 hB1 hg1 hat1; obtain ⟨A10, c10, rfl⟩ := Kd.R_slice hR1; rw [List.length_append, List.length_singleton] at hR1; have hbk1 := (hg1.block g hgd hgo).trans HBKc.out; have g1z := blk_frozen hbk1; obtain ⟨g10, g11, g12, g13⟩ := four hbk1; have HBK1 := Aside0.mk hbk1; have HR1' := Aside0.mk hR1; have HB1' := Aside0.mk hB1; have HG1 := Aside0.mk hg1; clear hbk1 hR1 hB1 hg1 hat1)
                        all_goals (go_wp2; go_ret2; rw [he.out]; exact ⟨rfl, begun HBK1.out HR1'.out hFg hbg, begunFt2 HF5.out HFt.out HB1'.out HG1.out (fun k hk => .inr (Nat.le_of_lt (HOwn.out k hk).1)) hFg _⟩)

end Go.Proofs.Ytphbpcmncelkhaa.Sess
