/- The walk of latchkeylaw03.ShaAll. -/
import Derived.Test.YtocnkfepiknglaaAll15
namespace Go.Proofs.Ytocnkfepiknglaa.PAll
open Go.RowKit Go.Shelf Go.Proofs.YtocnkfepiknglaaW.PrintWords Go.Proofs.YtocnkfepiknglaaW.PrintLast Go.Proofs.YtocnkfepiknglaaW.PrintMore
set_option linter.unusedVariables false
set_option linter.unusedSimpArgs false

theorem flatB_snoc {w0 : World} (zs : List (Piece w0)) (x : Piece w0) : flatB (zs ++ [x]) = flatB zs ++ x.b := by simp [flatB]
theorem flatB_byteL {w0 : World} (zs : List (Piece w0)) : ByteL (flatB zs) := fun y hy => by
  obtain ⟨x, _, hx⟩ := List.mem_flatMap.1 hy
  exact x.hB y hx

theorem below_setB {base g i : Nat} {w0 w : World} {v : Value} (h : Below base w0 w) (hg : base ≤ g) : Below base w0 (w.setCell ⟨g, i, none⟩ v) :=
  ⟨h.os, h.tape, h.output, by have := h.size; simpa [World.setCell] using this, fun k hk => (Below.heap_setCell w ⟨g, i, none⟩ v k (by have : k < base := hk; show k ≠ g; omega)).trans (h.block k hk)⟩
theorem all_values {w w3 : World} {oa : Option Addr} {n c : Nat} (zs : List (Piece w)) (hzn : zs.length = n) (hn : n ≤ 201) (hL : ListAt w w.heap.size w oa zs) (hw : Below w.heap.size w w3) :
    Calls Try.prog 15 #[.func (.func 22) #[] #[.pointer (some ⟨w3.heap.size, 0, none⟩)]] (w3.alloc (.cells #[.slice oa n c] 27)) fun e w' => e = .returned (.agg (arr32 (hashL (flatB zs)))) ∧ Below w3.heap.size w3 w' := by
  obtain ⟨w4, hW⟩ : ∃ w4, w4 = w3.alloc (.cells #[.slice oa n c] 27) := ⟨_, rfl⟩
  rw [← hW]
  have h4 : w4.heap[w3.heap.size]? = some (.cells #[.slice oa n c] 27 (0, 0)) := by rw [hW]; exact blk_new _ _
  have hb : Below w3.heap.size w3 w4 := by rw [hW]; exact below_alloc (Below.refl _ _) _
  have hs := hb.size
  have hs3 := hw.size
  have hw4 : Below w.heap.size w w4 := hw.trans (hb.mono hs3)
  have hbs : w4.cell? ⟨w3.heap.size, 0, none⟩ = some (.slice oa zs.length c) := by rw [hzn]; exact blk_cell h4 0
  refine (all_calls (enters_of Try.func22 (by kernel_rfl) rfl) (w0 := w) (ws := w4) zs (by omega) (by omega) hw4 rfl (values_seq (by decide) (by omega) hbs (Nat.le_refl _) (fun r x hx => ?_)) (fun A B hA hs' => ?_)).mono ?_
  · obtain ⟨a, h1, h2, h3⟩ := hL r x hx
    exact ⟨a, h1, by omega, (hw4.cell (p := a.add r) (by rw [add_block]; exact h2)).trans h3⟩
  · subst hs'
    exact ⟨hA, rfl, fun _ => False, fun _ _ => rfl, fun _ h => h.elim⟩
  · rintro e w' ⟨rfl, hb'⟩
    exact ⟨rfl, hb.trans (hb'.mono hs)⟩
theorem all_law {w wd : World} {oa : Option Addr} {n c Cb Bl : Nat} (zs : List (Piece w)) (hzn : zs.length = n) (hn : n ≤ 201) (hL : ListAt w w.heap.size w oa zs) (hw : Below w.heap.size w wd) (hC : wd.heap[Cb]? = some (.cells #[.int .i64 0] 3 (0, 0))) (hB : wd.heap[Bl]? = some (.cells #[.slice oa n c] 27 (0, 0))) (hCw : w.heap.size ≤ Cb) :
    Calls Try.prog 15 #[.func (.func 14) #[] #[.pointer (some ⟨Cb, 0, none⟩), .pointer (some ⟨Bl, 0, none⟩)]] wd fun e w' => e = .returned (.agg (arr32 (hashL (flatB zs)))) ∧ Below w.heap.size w w' ∧ w'.heap[Cb]? = some (.cells #[.int .i64 1] 3 (0, 0)) ∧ (∀ k, k < wd.heap.size → k ≠ Cb → w'.heap[k]? = wd.heap[k]?) ∧ wd.heap.size ≤ w'.heap.size := by
  have hne : Cb ≠ Bl := blk_ne hC hB (by decide)
  have hbs : wd.cell? ⟨Bl, 0, none⟩ = some (.slice oa zs.length c) := by rw [hzn]; exact blk_cell hB 0
  have hs := hw.size
  have hs1 : (wd.setCell ⟨Cb, 0, none⟩ (.int .i64 1)).heap.size = wd.heap.size := by simp [World.setCell]
  have hws : Below w.heap.size w (wd.setCell ⟨Cb, 0, none⟩ (.int .i64 1)) := below_setB hw hCw
  have h1 : (wd.setCell ⟨Cb, 0, none⟩ (.int .i64 1)).heap[Cb]? = some (.cells #[.int .i64 1] 3 (0, 0)) := by simpa using blk_set hC 0 (.int .i64 1)
  refine (all_calls (enters_of Try.func14 (by kernel_rfl) rfl) (w0 := w) (ws := wd.setCell ⟨Cb, 0, none⟩ (.int .i64 1)) zs (by omega) (by omega) hws hs1 (law_seq (by decide) (by omega) hne hC hbs (Nat.le_refl _) (fun r x hx a ha => ?_) (fun r x hx => ?_)) (fun A B hA hs' => ?_)).mono ?_
  · obtain ⟨a', h1', h2', _⟩ := hL r x hx
    rw [ha] at h1'
    injection h1' with h1'
    subst h1'
    omega
  · obtain ⟨a, h1, h2, h3⟩ := hL r x hx
    exact ⟨a, h1, by omega, (hw.cell (p := a.add r) (by rw [add_block]; exact h2)).trans h3⟩
  · subst hs'
    have hA1 := (hA.block Cb (blk_lt hC)).trans hC
    have hA2 : (A.setCell ⟨Cb, 0, none⟩ (.int .i64 1)).heap[Cb]? = some (.cells #[.int .i64 1] 3 (0, 0)) := by simpa using blk_set hA1 0 (.int .i64 1)
    refine ⟨⟨hA.os, hA.tape, hA.output, by have := hA.size; simpa [World.setCell] using this, fun k hk => ?_⟩, by simp [World.setCell], fun k => k = Cb, fun k hk => Below.heap_setCell A _ _ k hk, fun k hk => by obtain rfl : k = Cb := hk; exact ⟨blk_lt hC, _, hA1⟩⟩
    by_cases he : k = Cb
    · rw [he, hA2, h1]
    · rw [Below.heap_setCell A _ _ k he, Below.heap_setCell wd _ _ k he]
      exact hA.block k hk
  · rintro e w' ⟨rfl, hb'⟩
    have hs' := hb'.size
    rw [hs1] at hs'
    exact ⟨rfl, hws.trans (hb'.mono hs), (hb'.block Cb (blk_lt hC)).trans h1, fun k hk hne' => (hb'.block k hk).trans (Below.heap_setCell wd _ _ k hne'), hs'⟩

set_option maxHeartbeats 8000000 in
set_option maxRecDepth 100000 in
theorem shaAll_walk (oa : Option Addr) (n c : Nat) (w : World) (hrow : PiecesAt w oa n) (hn : n ≤ 140737488355328) :
    Calls Try.prog 7 #[.slice oa n c] w fun e w' => e = .returned (.bool true) ∧ Below w.heap.size w w' := by
  have HR := Aside0.mk hrow
  clear hrow
  go_enter Try.func7, Try.ntmps7
  go_upto_region 1 with (fail)
  obtain ⟨w1, hW1⟩ : ∃ w1, w1 = w.alloc (.cells #[.slice oa n c] 27) := ⟨_, rfl⟩
  rw [← hW1]
  have h1l : w1.heap[w.heap.size]? = some (.cells #[.slice oa n c] 27 (0, 0)) := by rw [hW1]; exact blk_new _ _
  have h1B : Below w.heap.size w w1 := by rw [hW1]; exact below_alloc (Below.refl _ _) _
  have H1L := Aside0.mk h1l
  have H1B := Aside0.mk h1B
  have hs1 : w.heap.size < w1.heap.size := blk_lt h1l
  clear hW1 h1l h1B
  go_upto_region 3 with (first | (go_at_call 8; (with_reducible refine (awake_calls _).mono ?_); rintro e w2 ⟨rfl, hb2⟩; have HB2 := Aside0.mk hb2; clear hb2))
  have hs2 := HB2.out.size
  have hbl := (HB2.out.block w.heap.size hs1).trans H1L.out
  have hcl := blk_cell hbl 0
  have HBL := Aside0.mk hbl
  have HBN := Aside0.mk (bytes_nil w2 w2.heap.size)
  have HB2' := Aside0.mk (Below.refl w2.heap.size w2)
  clear hbl
  go_upto_region 5 with (fail)
  go_loopg [3, 12] n (fun gg s3 s12 wq => ∃ (i : Nat) (zs : List (Piece w)), i ≤ n ∧ n - i ≤ gg ∧ s12 = .int .i64 i ∧ zs.length = i ∧ i ≤ 201 ∧ (flatB zs).length ≤ 20000 ∧ Aside0 (ListAt w w.heap.size w oa zs) ∧ Aside0 (BytesAt wq w2.heap.size s3 (flatB zs)) ∧ Aside0 (Below w2.heap.size w2 wq))
  case atStart => exact ⟨0, [], by omega, by omega, rfl, rfl, by decide, (show 0 ≤ 20000 by decide), ⟨fun r x hx => by simp at hx⟩, HBN, HB2'⟩
  case round =>
    clear HBN HB2'
    obtain ⟨i, zs, hi, hgg, rfl, hzl, hi2, hal, HL, HBA, HBQ⟩ := hrel
    have hw2 : Below w.heap.size w w2 := H1B.out.trans (HB2.out.mono (Nat.le_of_lt hs1))
    have hwq : Below w.heap.size w wr := hw2.trans (HBQ.out.mono (by omega))
    obtain ⟨A4, c4, rfl⟩ := bytes_slice HBA.out
    by_cases hlt : i < n
    · have hiz : (i : Int) < (n : Int) := by omega
      have HM := Aside0.mk (show n - (i + 1) < gk by omega)
      obtain ⟨a, Ai, Ci, bi, hoa, hab, hr1, hr2, hr3, hr4⟩ := HR.out i hlt
      subst hoa
      have hac := (hwq.cell (p := a.add i) (by rw [add_block]; exact hab)).trans hr1
      have HCB := Aside0.mk (Kd.C_below hr2 hwq)
      obtain ⟨al, hAL⟩ : ∃ al, al = flatB zs := ⟨_, rfl⟩
      rw [← hAL] at hal ⊢
      have hba := HBA.out
      rw [← hAL] at hba
      have HBA' := Aside0.mk hba
      have HLT := Aside0.mk hlt
      have HAL := Aside0.mk hAL
      have HZL := Aside0.mk hzl
      have HW := Aside0.mk (And.intro hr1 (And.intro hr2 hr3))
      have HWQ := Aside0.mk hwq
      have HW2 := Aside0.mk hw2
      clear hr1 hr2 hr3 hgg hlt hi hzl hAL hba HBA hwq hw2
      go_upto_region 7 with (fail)
      by_cases h200 : 200 < i
      · have hz200 : decide ((200 : Int) < (i : Int)) = true := decide_eq_true (by omega)
        have hy200 : (200 : Int) < (i : Int) := by omega
        go_wp2
        go_ret
        exact ⟨rfl, HWQ.out⟩
      · have hz200 : decide ((200 : Int) < (i : Int)) = false := decide_eq_false (by omega)
        have hy200 : ¬ (200 : Int) < (i : Int) := by omega
        by_cases h5 : 20000 < al.length + bi.length
        · have h5z : decide ((20000 : Int) < (al.length : Int) + (bi.length : Int)) = true := decide_eq_true (by omega)
          have h5y : (20000 : Int) < (al.length : Int) + (bi.length : Int) := by omega
          go_wp2
          go_ret
          exact ⟨rfl, HWQ.out⟩
        · have h5z : decide ((20000 : Int) < (al.length : Int) + (bi.length : Int)) = false := decide_eq_false (by omega)
          have h5y : ¬ (20000 : Int) < (al.length : Int) + (bi.length : Int) := by omega
          have h5x : al.length + bi.length ≤ 20000 := by omega
          have hb2q : w2.heap.size ≤ wr.heap.size := HBQ.out.size
          go_wp2_with (first | ((with_reducible refine gate_dst (N := 29) rfl ?_); refine bytes_append_at rfl (.tmp 27) (.tmp 28) rfl Ci rfl rfl HBA'.out HCB.out (by omega) hb2q ?_; intro v6 w6 hq6 hg6 hat; have HBA7 := Aside0.mk hq6; have HG6 := Aside0.mk hg6; clear hq6 hg6 hat))
          go_roundg (n - (i + 1))
          case measure => exact HM.out
          case rel =>
            obtain ⟨hr1, hr2, hr3⟩ := HW.out
            have hs6 := HG6.out.size
            obtain ⟨px, hxA, hxc, hxb⟩ : ∃ x : Piece w, x.A = Ai ∧ x.c = Ci ∧ x.b = bi := ⟨⟨Ai, Ci, bi, hr2, hr3, by omega⟩, rfl, rfl, rfl⟩
            have e : flatB (zs ++ [px]) = al ++ bi := by rw [flatB_snoc, HAL.out, hxb]
            refine ⟨i + 1, zs ++ [px], HLT.out, Nat.le_refl _, by push_cast; rfl, by rw [List.length_append, HZL.out]; rfl, by omega, by rw [e, List.length_append]; exact h5x, ⟨?_⟩, ⟨by rw [e]; exact HBA7.out⟩, ⟨HBQ.out.trans ⟨HG6.out.os, HG6.out.tape, HG6.out.output, hs6, fun k hk => HG6.out.block k (by have : k < w2.heap.size := hk; omega) (fun e => by have h1 := (q_typed HBA'.out k e.symm).1; have : k < w2.heap.size := hk; omega)⟩⟩⟩
            intro r x hx
            rcases Nat.lt_or_ge r zs.length with h | h
            · rw [List.getElem?_append_left h] at hx
              exact HL.out r x hx
            · rw [List.getElem?_append_right h] at hx
              have hr : r = i := by
                have := (List.getElem?_eq_some_iff.1 hx).1
                have := HZL.out
                simp at *
                omega
              subst hr
              rw [HZL.out, Nat.sub_self, List.getElem?_cons_zero] at hx
              injection hx with hx
              subst hx
              exact ⟨a, rfl, hab, by unfold Piece.enc; rw [hxA, hxb, hxc]; exact hr1⟩
    · have hin : i = n := by omega
      have hiz : ¬ (i : Int) < (n : Int) := by omega
      have hzn : zs.length = n := by omega
      have hn2 : n ≤ 201 := by omega
      obtain ⟨al, hAL⟩ : ∃ al, al = flatB zs := ⟨_, rfl⟩
      rw [← hAL] at hal ⊢
      have hba := HBA.out
      rw [← hAL] at hba
      have HBA' := Aside0.mk hba
      have HAL := Aside0.mk hAL
      have HALB : Aside0 (ByteL al) := ⟨by rw [hAL]; exact flatB_byteL zs⟩
      have hblr := (HBQ.out.block w.heap.size (by show _ < _; omega)).trans HBL.out
      have HBLR := Aside0.mk hblr
      have HWQ := Aside0.mk hwq
      have HZN := Aside0.mk hzn
      clear hAL hba HBA hblr hwq hw2 hzl hi hgg hlt hcl
      have hcl := blk_cell HBLR.out 0
      go_upto_region 13 with (fail)
      obtain ⟨w3, hW3⟩ : ∃ w3, w3 = wr.alloc (.cells #[.int .i64 0] 3) := ⟨_, rfl⟩
      rw [← hW3]
      have h3c : w3.heap[wr.heap.size]? = some (.cells #[.int .i64 0] 3 (0, 0)) := by rw [hW3]; exact blk_new _ _
      have h3b : Below wr.heap.size wr w3 := by rw [hW3]; exact below_alloc (Below.refl _ _) _
      have hs3 : wr.heap.size < w3.heap.size := blk_lt h3c
      have hsq := HBQ.out.size
      have hwr := HWQ.out.size
      have h3w : Below w.heap.size w w3 := HWQ.out.trans (h3b.mono hwr)
      have h3l := (h3b.block w.heap.size (blk_lt HBLR.out)).trans HBLR.out
      have h3a : BytesAt w3 w2.heap.size (.slice A4 al.length c4) al := bytes_step HBA'.out (fun k hk => h3b.block k (q_lt HBA'.out k hk))
      have hal4 : ∀ a, A4 = some a → a.block < wr.heap.size := fun a ha => q_lt HBA'.out a.block (by rw [ha]; rfl)
      have HC3 := Aside0.mk (bytes_C h3a).1
      have HA3 := Aside0.mk h3a
      have hk4 : ∀ k, (Value.slice A4 al.length c4).ownBlock = some k → k < wr.heap.size := fun k hk => q_lt HBA'.out k hk
      have HK4 := Aside0.mk hk4
      clear hk4
      have H3L := Aside0.mk h3l
      have H3C := Aside0.mk h3c
      have H3W := Aside0.mk h3w
      have HA4 := Aside0.mk hal4
      have HALL1 := Aside0.mk (all_values (c := c) zs HZN.out hn2 HL.out h3w)
      rw [← HAL.out] at HALL1
      have hcl3 := blk_cell h3l 0
      have he := eq_hash al
      clear hW3 h3c h3b h3w h3l h3a hal4 hcl
      go_wp2_with (first | (go_at_call 16; (with_reducible refine (values_calls oa n c w3).mono ?_); rintro e w4 ⟨rfl, rfl⟩) | (go_at_call 15; (with_reducible refine HALL1.out.mono ?_); rintro e w5 ⟨rfl, hb5⟩; have HB5 := Aside0.mk hb5; clear hb5) | (go_at_call 9; (with_reducible refine (of_calls (w := w5) (b := al) c4 (Kd.C_below HC3.out HB5.out) (fun a ha => by have := HA4.out a ha; have := HB5.out.size; omega) HALB.out (by omega)).mono ?_); rintro e w6 ⟨rfl, hb6⟩; have HB6 := Aside0.mk (HB5.out.trans (hb6.mono HB5.out.size)); clear hb6; have HALL2 := Aside0.mk (all_law (c := c) zs HZN.out hn2 HL.out (H3W.out.trans (HB6.out.mono (by have := H3W.out.size; omega))) ((HB6.out.block _ (blk_lt H3C.out)).trans H3C.out) ((HB6.out.block _ (blk_lt H3L.out)).trans H3L.out) hwr); rw [← HAL.out] at HALL2) | (go_at_call 15; (with_reducible refine HALL2.out.mono ?_); rintro e w7 ⟨rfl, hb7, hc7, hk7, hs7⟩; have HB7 := Aside0.mk hb7; have HC7 := Aside0.mk hc7; have HK7 := Aside0.mk hk7; have HC8 := Aside0.mk (bytes_C (bytes_step HA3.out (fun k hk => by have h1 := HK4.out k hk; have h2 := HB6.out.size; exact (hk7 k (by omega) (by omega)).trans (HB6.out.block k (by show k < _; omega))))).1; clear hb7 hc7 hk7; have h37 := HB6.out.size) | (go_at_call 9; (with_reducible refine (of_calls (w := w7) (b := al) c4 HC8.out (fun a ha => by have := HA4.out a ha; omega) HALB.out (by omega)).mono ?_); rintro e w8 ⟨rfl, hb8⟩; have HB8 := Aside0.mk hb8; have hcount := blk_cell ((hb8.block _ (blk_lt HC7.out)).trans HC7.out) 0; clear hb8))
      go_ret
      exact ⟨rfl, HB7.out.trans (HB8.out.mono HB7.out.size)⟩
end Go.Proofs.Ytocnkfepiknglaa.PAll
