/- Take of the reference. -/
import Derived.Test.YtphbpcmncelkhaaBook10
set_option linter.unusedVariables false
set_option linter.unusedSimpArgs false
namespace Go.Proofs.Ytphbpcmncelkhaa.Sess
open Go.RowKit Go.Shelf Go.Proofs.YtphbpcmncelkhaaW.PrintWords Go.Proofs.YtphbpcmncelkhaaW.PrintLast Go.Proofs.YtphbpcmncelkhaaW.PrintMore
open Go.Proofs.Ytphbpcmncelkhaa.PSessPlays

theorem reads_part {W : World} {base g cap : Nat} {okp : Nat → Prop} {f : Nat → Cs} {xs : List S34} (h : RowF W g cap xs.length f) (hM : ∀ j y, xs[j]? = some y → k34.M W base okp y (f j).cells) (a m : Nat) (ham : a + m ≤ xs.length) (ys : List S34) (hy : ys.length = m)
    (hys : ∀ j y, ys[j]? = some y → xs[a + j]? = some y) (A : Option Addr) (hA : 0 < m → A = some ⟨g, a * 6, none⟩) (hsm : m ≤ 9223372036854775807) : ReadsRow (k34.M W base okp) 6 W A m ys := by
  refine ⟨hy, hsm, fun hm => ⟨⟨g, a * 6, none⟩, hA hm, fun j p hp => ⟨(f (a + j)).cells, rfl, hM _ _ (hys j p hp), fun i u hu => ?_⟩⟩⟩
  have hj : j < m := by
    have := (List.getElem?_eq_some_iff.1 hp).1
    omega
  obtain ⟨c0, c1, c2, c3, c4, c5⟩ := h.cell (a + j) (by omega)
  have hi : i < 6 := (List.getElem?_eq_some_iff.1 hu).1
  rw [add_at, show a * 6 + (j * 6 + i) = (a + j) * 6 + i by omega, ← hu]
  have : i = 0 ∨ i = 1 ∨ i = 2 ∨ i = 3 ∨ i = 4 ∨ i = 5 := by omega
  rcases this with rfl | rfl | rfl | rfl | rfl | rfl
  · exact c0
  · exact c1
  · exact c2
  · exact c3
  · exact c4
  · exact c5

theorem own_after {v v1 : Value} {N M : Nat} (h : ∀ q, some q = v.ownBlock → N ≤ q) (hM : N ≤ M) (hat : v1.ownBlock = v.ownBlock ∨ ∃ b, v1.ownBlock = some b ∧ M ≤ b) : ∀ q, some q = v1.ownBlock → N ≤ q := by
  intro q hq
  rcases hat with e | ⟨b, e, hb⟩
  · rw [e] at hq; exact h q hq
  · rw [e] at hq
    injection hq with hq
    omega

set_option maxHeartbeats 8000000 in
set_option maxRecDepth 100000 in
theorem rtake_calls (F : Nat → Prop) (g base : Nat) (room life last handle now : Int) (l : List S34) (w : World) (hB : BookAt w base F g 45 room life last l) (hF : ∀ k, F k → k < w.heap.size) (hn : l.length ≤ 1000000) :
    Calls Try.prog 14 #[.pointer (some ⟨g, 0, none⟩), .int .u64 handle, .int .u64 now] w fun e w' => ∃ x : Cs, e = .returned (.tuple #[x.agg, .int .i64 (takeS handle now l).2.1]) ∧ SessM w' base (fun k => F k ∨ w.heap.size ≤ k) x (takeS handle now l).1 ∧
      BookAt w' base (fun k => F k ∨ w.heap.size ≤ k) g 45 room life last (takeS handle now l).2.2 ∧ Ft F w w' := by
  obtain ⟨v, hb, hFg, hbg, hR⟩ := hB
  have hlt := blk_lt hb
  have hne : g ≠ w.heap.size := by omega
  obtain ⟨W1, hW1⟩ : ∃ W1, W1 = w.alloc (.cells #[.int .u64 0, .string ⟨#[]⟩, .slice none 0 0, .int .u64 0, .bool false, .bool false] 34) := ⟨_, rfl⟩
  have hBel : Below w.heap.size w W1 := by rw [hW1]; exact below_alloc (Below.refl _ _) _
  have hsz1 : W1.heap.size = w.heap.size + 1 := by rw [hW1]; simp
  have hZ1 : W1.heap[w.heap.size]? = some (.cells #[.int .u64 0, .string ⟨#[]⟩, .slice none 0 0, .int .u64 0, .bool false, .bool false] 34 (0, 0)) := by rw [hW1]; exact blk_new _ _
  obtain ⟨A0, c0, rfl⟩ := Kd.R_slice hR
  have hbk1 := (hBel.block g hlt).trans hb
  obtain ⟨e0, e1, e2, e3⟩ := four hbk1
  have e6 := blk_frozen hbk1
  obtain ⟨z0, z1, z2, z3, z4, z5, z6⟩ := six hZ1
  have HR1 := Aside0.mk (Kd.R_below hR hBel)
  have HB1 := Aside0.mk hbk1
  have HZ1 := Aside0.mk hZ1
  have HF := Aside0.mk hF
  have HBel := Aside0.mk hBel
  have HS1 := Aside0.mk hsz1
  obtain ⟨n, hnn⟩ : ∃ n, n = l.length := ⟨_, rfl⟩
  have HN := Aside0.mk hnn
  rw [← hnn] at hn hb e3
  clear hR hb hF hBel hsz1 hbk1 hZ1 hnn
  go_enter Try.func14, Try.ntmps14
  go_wp2
  rw [← hW1]
  have HW1 := Aside0.mk hW1
  clear hW1
  go_loopg [8, 9] n (fun gg s8 _ wr => ∃ (k : Nat), k ≤ n ∧ n - k ≤ gg ∧ s8 = .int .i64 k ∧ wr = W1 ∧ Aside0 (∀ j, j < k → ((l.getD j z34).f0 == handle) = false))
  case atStart => exact ⟨0, Nat.zero_le _, by omega, rfl, rfl, ⟨fun j hj => absurd hj (Nat.not_lt_zero _)⟩⟩
  case round =>
    obtain ⟨k, hk, hgg, rfl, rfl, HNo⟩ := hrel
    by_cases hlt2 : k < n
    · have hltz : (k : Int) < (n : Int) := by omega
      have hkl : k < l.length := by have := HN.out; omega
      rcases row_of_R HR1.out with ⟨_, hnil⟩ | ⟨g2, cap, f, hv, hrow, hcm, hb2, hg2, hM⟩
      · rw [hnil] at hkl; exact absurd hkl (Nat.not_lt_zero _)
      injection hv with hv1 hv2 hv3
      subst hv1 hv3
      clear hv2
      obtain ⟨l0, l1, l2, l3, l4, l5⟩ := hrow.cell k hkl
      have hm := hM k _ (getD_of hkl)
      have hg2w := HF.out g2 hg2.1
      have hgg2 : g ≠ g2 := fun h => hg2.2 h.symm
      have HRow := Aside0.mk hrow
      have HMM := Aside0.mk hM
      obtain ⟨x, hxx⟩ : ∃ x, f k = x := ⟨_, rfl⟩
      rw [hxx] at l0 l1 l2 l3 l4 l5 hm
      have HX := Aside0.mk hxx
      have HM1 := Aside0.mk hm
      have hx0 := Aside0.mk hm.1
      clear hrow hM hm hxx hcm
      cases hq : x.h == handle with
      | false =>
        have hqn : (x.h != handle) = true := by simp only [bne, hq]; rfl
        go_wp2
        go_roundg (n - (k + 1))
        case measure => omega
        case rel =>
          refine ⟨k + 1, by omega, by omega, by go_num, rfl, ⟨fun j hj => ?_⟩⟩
          by_cases e : j = k
          · rw [e, ← hx0.out]; exact hq
          · exact HNo.out j (by omega)
      | true =>
        have hqn : (x.h != handle) = false := by simp only [bne, hq]; rfl
        go_upto_region 6 with (fail)
        generalize hW5 : wr.alloc (Obj.cells #[Value.int IntKind.u64 x.h, Value.string x.u, Value.slice x.dA x.dn x.dc, Value.int IntKind.u64 x.e, Value.bool x.r, Value.bool x.a] 34) = w5
        have hB5 : Below wr.heap.size wr w5 := by rw [← hW5]; exact below_alloc (Below.refl _ _) _
        have hsz5 : w5.heap.size = wr.heap.size + 1 := by rw [← hW5]; simp
        have hX5 : w5.heap[wr.heap.size]? = some (.cells #[.int .u64 x.h, .string x.u, .slice x.dA x.dn x.dc, .int .u64 x.e, .bool x.r, .bool x.a] 34 (0, 0)) := by rw [← hW5]; exact blk_new _ _
        have hS1 := HS1.out
        have hbk5 := (hB5.block g (by omega)).trans HB1.out
        have hZ5 := (hB5.block w.heap.size (by omega)).trans HZ1.out
        have hnl := HN.out
        have hnc : n ≤ c0 := by obtain ⟨cur, _, _, h3, _⟩ := HRow.out; omega
        have hread : ∀ (W : World), Below w5.heap.size w5 W → ∀ (a m : Nat), a + m ≤ l.length → ∀ (ys : List S34), ys.length = m → (∀ (j : Nat) y, ys[j]? = some y → l[a + j]? = some y) → ∀ A : Option Addr, (0 < m → A = some ⟨g2, a * 6, none⟩) → ReadsRow (k34.M W base (fun k => F k ∧ k ≠ g)) 6 W A m ys := fun W hW a m ham ys hy hys A hA =>
          reads_part (HRow.out.blk ((hW.block g2 (by omega)).trans (hB5.block g2 (by omega)))) (fun j y hj => ((HMM.out j y hj).step (fun q _ hq => (hW.block q (by omega)).trans (hB5.block q hq))).M |> k34.M_mono (fun q hq => hq.1)) a m ham ys hy hys A hA (by omega)
        obtain ⟨A9, hA9, hA9b⟩ : ∃ A9 : Addr, (if c0 = k + 1 then some (⟨g2, 0, none⟩ : Addr) else some ⟨g2, (k + 1) * 6, none⟩) = some A9 ∧ Aside0 (0 < n - (k + 1) → A9 = ⟨g2, (k + 1) * 6, none⟩) := by
          by_cases h : c0 = k + 1
          · exact ⟨_, if_pos h, ⟨fun h2 => by omega⟩⟩
          · exact ⟨_, if_neg h, ⟨fun _ => rfl⟩⟩
        have HRd := Aside0.mk hread
        have HX5 := Aside0.mk hX5
        have HB5 := Aside0.mk hB5
        have HBK5 := Aside0.mk hbk5
        have HZ5 := Aside0.mk hZ5
        have HW5 := Aside0.mk hW5
        have hlk : (l.take k).length = k := by rw [List.length_take]; omega
        have hld : (l.drop (k + 1)).length = n - (k + 1) := by rw [List.length_drop]; omega
        have hLit : Aside0 (k34.R 34 (w5.alloc (.cells #[] 34)).drew base (fun j => (F j ∨ w5.heap.size ≤ j) ∧ j ≠ g) (.slice (some ⟨w5.heap.size, 0, none⟩) 0 0) []) := ⟨by
          refine R_of_row (xs := []) (f := fun _ => zCs) ⟨#[], blk_new w5 _, rfl, Nat.le_refl _, fun j hj => absurd hj (Nat.not_lt_zero _)⟩ (by decide) (by omega) ⟨.inr (Nat.le_refl _), by omega⟩ (fun j y hy => by simp at hy)⟩
        have hwr : IntKind.i64.wrap ((k : Int) + 1) = (k : Int) + 1 := by rw [IntKind.wrap_i64]; omega
        have hp0 : (0 : Int) ≤ (k : Int) + 1 := by omega
        have hp1 : (k : Int) + 1 ≤ (n : Int) := by omega
        have hp2 : ((k : Int) + 1).toNat = k + 1 := by omega
        have hp3 : (k : Int) ≤ (c0 : Int) := by omega
        have hp4 : k ≤ c0 := by omega
        have hg5 : g < w5.heap.size := by omega
        have hg5' : g ≠ w5.heap.size := by omega
        have hRd1 : Aside0 (ReadsRow (k34.M (w5.alloc (.cells #[] 34)).drew base (fun k => F k ∧ k ≠ g)) 6 (w5.alloc (.cells #[] 34)).drew (some ⟨g2, 0, none⟩) k (l.take k)) :=
          ⟨hread _ (below_drew (below_alloc (Below.refl _ _) _)) 0 k (by omega) _ hlk (fun j y hj => by
            have hjk : j < k := by have := (List.getElem?_eq_some_iff.1 hj).1; omega
            rw [List.getElem?_take, if_pos hjk] at hj
            rw [Nat.zero_add]; exact hj) _ (fun _ => by rw [Nat.zero_mul])⟩
        obtain ⟨v0, v1, v2, v3⟩ := four hbk5
        have v6 := blk_frozen hbk5
        clear hread hX5 hB5 hbk5 hZ5 hW5 e0 e1 e2 e3 e6 z0 z1 z2 z3 z4 z5 z6 l0 l1 l2 l3 l4 l5
        have hQ1 : Aside0 (∀ j, (F j ∧ j ≠ g) → ((F j ∨ w5.heap.size ≤ j) ∧ j ≠ g) ∧ some j ≠ (Value.slice (some ⟨w5.heap.size, 0, none⟩) 0 0).ownBlock) := by
          refine ⟨fun j hj => ⟨⟨.inl hj.1, hj.2⟩, fun e => ?_⟩⟩
          have h1 := HF.out j hj.1
          have h2 : j = w5.heap.size := by simpa [Value.ownBlock] using e
          omega
        have hQ2 : Aside0 (∀ (W : World), w5.heap.size ≤ W.heap.size → ∀ j, W.heap.size ≤ j → (F j ∨ w5.heap.size ≤ j) ∧ j ≠ g) := ⟨fun W hW j hj => ⟨.inr (by omega), by omega⟩⟩
        have hb5 : base ≤ (w5.alloc (.cells #[] 34)).drew.heap.size := by
          show base ≤ (w5.heap.push _).size
          simp; omega
        have hq5 : w5.heap.size ≤ (w5.alloc (.cells #[] 34)).drew.heap.size := by
          show w5.heap.size ≤ (w5.heap.push _).size
          simp
        have hl1 : (([] : List S34).length + k) * 64 ≤ 140737488355328 := by simp; omega
        have hOwn0 : ∀ q, some q = (Value.slice (some ⟨w5.heap.size, 0, none⟩) 0 0).ownBlock → w5.heap.size ≤ q := fun q hq => by
          have : q = w5.heap.size := by simpa [Value.ownBlock] using hq
          omega
        have hOne : ∀ (wa : World), Below base (w5.alloc (.cells #[] 34)).drew wa → (w5.alloc (.cells #[] 34)).drew.grownBy wa (Value.slice (some ⟨w5.heap.size, 0, none⟩) 0 0).ownBlock → Below w5.heap.size w5 wa := fun wa h1 h2 =>
          (below_drew (below_alloc (Below.refl _ _) _)).trans (grown_below h1 h2 hOwn0 hq5)
        have hTwo : ∀ (va : Value) (wa wb : World), (∀ q, some q = va.ownBlock → w5.heap.size ≤ q) → Below w5.heap.size w5 wa → Below base wa wb → wa.grownBy wb va.ownBlock → Below w5.heap.size w5 wb := fun va wa wb h0 h1 h2 h3 =>
          h1.trans (grown_below h2 h3 h0 h1.size)
        have hQ3 : Aside0 (∀ (va : Value), (∀ q, some q = va.ownBlock → w5.heap.size ≤ q) → ∀ j, (F j ∧ j ≠ g) → ((F j ∨ w5.heap.size ≤ j) ∧ j ≠ g) ∧ some j ≠ va.ownBlock) := by
          refine ⟨fun va hva j hj => ⟨⟨.inl hj.1, hj.2⟩, fun e => ?_⟩⟩
          have h1 := HF.out j hj.1
          have h2 := hva j e
          omega
        have hQ4 : Aside0 (∀ (W : World), w5.heap.size ≤ W.heap.size → base ≤ W.heap.size) := ⟨fun W hW => by omega⟩
        have hl2 : (([] ++ l.take k).length + (n - (k + 1))) * 64 ≤ 140737488355328 := by rw [List.nil_append, hlk]; omega
        have hRd2 : Aside0 (∀ (W : World), Below w5.heap.size w5 W → ReadsRow (k34.M W base (fun k => F k ∧ k ≠ g)) 6 W (some A9) (n - (k + 1)) (l.drop (k + 1))) :=
          ⟨fun W hW => HRd.out W hW (k + 1) (n - (k + 1)) (by omega) _ hld (fun j y hj => by rw [List.getElem?_drop] at hj; exact hj) _ (fun h => by rw [hA9b.out h])⟩
        have HS5 := Aside0.mk hsz5
        rw [← HN.out] at v3
        clear hnl hsz5 hS1 hlk hld
        have hera : ([] ++ l.take k) ++ l.drop (k + 1) = l.eraseIdx k := by rw [List.nil_append, List.eraseIdx_eq_take_drop_succ]
        have hlen3 : (([] ++ l.take k) ++ l.drop (k + 1)).length = n - 1 := by rw [hera, List.length_eraseIdx_of_lt hkl, ← HN.out]
        have hi : Aside0 (idxP (fun y => y.f0 == handle) l = k) := ⟨idxq_hit hkl (by show ((l.getD k z34).f0 == handle) = true; rw [← hx0.out]; exact hq) HNo.out⟩
        have HX3 := Aside0.mk HM1.out.2.2.1
        have hsz6 : w.heap.size < w5.heap.size := by have := HS5.out; have := HS1.out; omega
        go_cut [] from 10 to 60 (fun wx => Aside0 (∃ vL, wx.heap[g]? = some (.cells #[.int .i64 room, .int .u64 life, .int .u64 last, vL] 45 (0, 0)) ∧ k34.R 34 wx base (fun j => (F j ∨ w5.heap.size ≤ j) ∧ j ≠ g) vL (l.eraseIdx k) ∧ Ft (fun j => j = g) w5 wx))
        case first =>
          go_region_law (first
            | (refine Kd.R_append_rows_step k34 (w0 := (w5.alloc (.cells #[] 34)).drew) (W := (w5.alloc (.cells #[] 34)).drew) base rfl (.tmp 37) (.tmp 43) 43 34 _ 64 rfl Try.underlying43 info34 rfl (by decide) (by decide) (.slice (some ⟨w5.heap.size, 0, none⟩) 0 0) [] (l.take k) (some ⟨g2, 0, none⟩) k _ (fun j => (F j ∨ w5.heap.size ≤ j) ∧ j ≠ g) (fun k => F k ∧ k ≠ g) rfl rfl hLit.out hRd1.out (fun _ _ h => h) hQ1.out (hQ2.out _ hq5) (Below.refl _ _) hb5 hl1 ?_; intro va wa hRa hBa hga hata; have hb1 := hOne wa hBa hga; have hbka := (hb1.block g hg5).trans HBK5.out; obtain ⟨y0, y1, y2, y3⟩ := four hbka; have y6 := blk_frozen hbka; rw [← HN.out] at y3; have hOa := own_after hOwn0 hq5 hata; have HRa := Aside0.mk hRa; have HBa := Aside0.mk hb1; have HOa := Aside0.mk hOa; clear hRa hBa hga hata hb1 hbka hOa)
            | (refine Kd.R_append_rows_step k34 (w0 := wa) (W := wa) base rfl (.tmp 44) (.tmp 51) 43 34 _ 64 rfl Try.underlying43 info34 rfl (by decide) (by decide) va ([] ++ l.take k) (l.drop (k + 1)) (some A9) (n - (k + 1)) _ (fun j => (F j ∨ w5.heap.size ≤ j) ∧ j ≠ g) (fun k => F k ∧ k ≠ g) rfl rfl HRa.out (hRd2.out wa HBa.out) (fun _ _ h => h) (hQ3.out va HOa.out) (hQ2.out wa HBa.out.size) (Below.refl _ _) (hQ4.out wa HBa.out.size) hl2 ?_; intro vb wb hRb hBb hgb hatb; have hb2 := hTwo va wa wb HOa.out HBa.out hBb hgb; have hbkb := (hb2.block g hg5).trans HBK5.out; obtain ⟨x0, x1, x2, x3⟩ := four hbkb; have x6 := blk_frozen hbkb; obtain ⟨A10, c10, rfl⟩ := Kd.R_slice hRb; rw [hlen3] at hRb ⊢; have HRb := Aside0.mk hRb; have HBb := Aside0.mk hb2; have HBKb := Aside0.mk hbkb; clear hRb hBb hgb hatb hb2 hbkb))
          all_goals (go_wp2_with fail; go_meet; exact ⟨_, blk_set HBKb.out 3 _, by rw [← hera]; exact Kd.R_step HRb.out (fun q hq _ => Below.heap_setCell _ _ _ q hq.2), (Ft.of_below HBb.out (fun j => j = g)).setCell (p := ⟨g, 3, none⟩) (.inl rfl) _⟩)
        case rest =>
          obtain ⟨vL, hbkc, hRc, hft⟩ := hcut.out
          have hxc := hft.blk HX5.out (show ¬ _ = g by have := HS1.out; omega)
          have hzc := hft.blk HZ5.out (fun e => hne e.symm)
          obtain ⟨x0, x1, x2, x3, x4, x5, x6⟩ := six hxc
          obtain ⟨z0, z1, z2, z3, z4, z5, z6⟩ := six hzc
          have HZc := Aside0.mk hzc
          have HBKc := Aside0.mk hbkc
          have HRc := Aside0.mk hRc
          have HFt := Aside0.mk hft
          have hwz : wr.heap.size ≠ w.heap.size := by have := HS1.out; omega
          have hwz2 : w.heap.size ≠ wr.heap.size := fun h => hwz h.symm
          clear hbkc hRc hft hxc hzc hera hlen3 hRd1 hRd2 hLit hl1 hl2 hOne hTwo hOwn0 v0 v1 v2 v3 v6 hQ1 hQ2 hQ3 hQ4
          by_cases hq2 : x.e ≤ now
          · have hqb : decide (x.e ≤ now) = true := decide_eq_true hq2
            have he : Aside0 (takeS handle now l = (z34, 85, l.eraseIdx k)) := ⟨by
              unfold takeS
              rw [hi.out, if_neg (by omega), Int.toNat_natCast, if_pos (by rw [← HX3.out]; exact hq2)]⟩
            go_wp2
            obtain ⟨Wf, hWf, h1, h2, h3⟩ := six_sum HZc.out (.int .u64 0) (.string ⟨#[]⟩) (.slice none 0 0) (.int .u64 0) (.bool false) (.bool false)
            rw [← hWf]
            refine bodyPost_ret (results_ct (p := 6) (u := 7) (ty := 34) (by kernel_rfl) _ _ w.heap.size 34 _ (0, 0) _ rfl h1 Try.underlying34 rfl size34) rfl ?_
            rw [he.out]
            have hft := HFt.out
            have hneZ : ∀ q, F q → q ≠ w.heap.size := fun q hq => by have := HF.out q hq; omega
            have hf5 : Ft F w w5 := (Ft.of_below HBel.out F).trans (Ft.of_below HB5.out (fun _ => False)) (fun _ h => h.elim)
            have hfc : Ft F w wc := hf5.trans hft (fun i hi => .inl (by rw [hi]; exact hFg))
            refine ⟨zCs, rfl, zCs_M _ _ _, ⟨_, (h2 _ hne).trans HBKc.out, .inl hFg, hbg, ?_⟩, hfc.trans h3 (fun i hi => .inr (by omega))⟩
            exact Kd.R_mono (Kd.R_step HRc.out (fun q hq _ => h2 q (by rcases hq.1 with h | h; exact hneZ q h; omega))) (fun q hq => ⟨hq.1.imp id (fun h => by omega), hq.2⟩)
          · have hqb : decide (x.e ≤ now) = false := decide_eq_false hq2
            have he : Aside0 (takeS handle now l = (l.getD k z34, 0, l.eraseIdx k)) := ⟨by
              unfold takeS
              rw [hi.out, if_neg (by omega), Int.toNat_natCast, if_neg (by rw [← HX3.out]; exact hq2)]⟩
            go_wp2
            obtain ⟨Wf, hWf, h1, h2, h3⟩ := six_sum HZc.out (.int .u64 x.h) (.string x.u) (.slice x.dA x.dn x.dc) (.int .u64 x.e) (.bool x.r) (.bool x.a)
            rw [← hWf]
            refine bodyPost_ret (results_ct (p := 6) (u := 7) (ty := 34) (by kernel_rfl) _ _ w.heap.size 34 _ (0, 0) _ rfl h1 Try.underlying34 rfl size34) rfl ?_
            rw [he.out]
            have hft := HFt.out
            have hneZ : ∀ q, F q → q ≠ w.heap.size := fun q hq => by have := HF.out q hq; omega
            have hf5 : Ft F w w5 := (Ft.of_below HBel.out F).trans (Ft.of_below HB5.out (fun _ => False)) (fun _ h => h.elim)
            have hfc : Ft F w wc := hf5.trans hft (fun i hi => .inl (by rw [hi]; exact hFg))
            have hxf : SessM Wf base (fun k => F k ∨ w.heap.size ≤ k) x (l.getD k z34) := (HM1.out.step (fun q hq hlt => ((h2 q (hneZ q hq.1.1)).trans (hft.block q (by have := HB5.out.size; omega) hq.1.2)).trans (HB5.out.block q hlt))).mono (fun q hq => .inl hq.1.1)
            refine ⟨x, rfl, hxf, ⟨_, (h2 _ hne).trans HBKc.out, .inl hFg, hbg, ?_⟩, hfc.trans h3 (fun i hi => .inr (by omega))⟩
            exact Kd.R_mono (Kd.R_step HRc.out (fun q hq _ => h2 q (by rcases hq.1 with h | h; exact hneZ q h; omega))) (fun q hq => ⟨hq.1.imp id (fun h => by omega), hq.2⟩)
    · have hltz : ¬ (k : Int) < (n : Int) := by omega
      have : k = n := by omega
      subst this
      have hi : idxP (fun y => y.f0 == handle) l = -1 := idxq_miss (fun j hj => HNo.out j (by have := HN.out; omega))
      have he : Aside0 (takeS handle now l = (z34, 87, l)) := ⟨by unfold takeS; rw [hi]; rfl⟩
      clear hi
      go_wp2
      obtain ⟨Wf, hWf, h1, h2, h3⟩ := six_sum HZ1.out (.int .u64 0) (.string ⟨#[]⟩) (.slice none 0 0) (.int .u64 0) (.bool false) (.bool false)
      rw [← hWf]
      refine bodyPost_ret (results_ct (p := 6) (u := 7) (ty := 34) (by kernel_rfl) _ _ w.heap.size 34 _ (0, 0) _ rfl h1 Try.underlying34 rfl size34) rfl ?_
      rw [he.out]
      have hS := HS1.out
      have hne2 : ∀ k, F k → k ≠ w.heap.size := fun k hk => by have := HF.out k hk; omega
      refine ⟨zCs, rfl, zCs_M _ _ _, ⟨_, (h2 _ hne).trans HB1.out, .inl hFg, hbg, ?_⟩, (Ft.of_below HBel.out F).trans h3 (fun i hi => .inr (by omega))⟩
      exact Kd.R_mono (Kd.R_step HR1.out (fun k hk _ => h2 _ (hne2 k hk.1))) (fun k hk => ⟨.inl hk.1, hk.2⟩)

end Go.Proofs.Ytphbpcmncelkhaa.Sess
