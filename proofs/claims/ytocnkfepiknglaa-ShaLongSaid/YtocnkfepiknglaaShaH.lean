/- sha.New. -/
import Derived.Test.YtocnkfepiknglaaShaC
namespace Go.Proofs.Ytocnkfepiknglaa.PAll
open Go.RowKit Go.Proofs.YtocnkfepiknglaaW.PrintWords Go.Proofs.YtocnkfepiknglaaW.PrintLast Go.Proofs.YtocnkfepiknglaaW.PrintMore
set_option linter.unusedVariables false
set_option linter.unusedSimpArgs false

theorem rowcells {w : World} {base : Nat} {ok : Nat → Prop} {v : Value} {xs : List Int} (h : Kd.R (Kd.int .u32) 43 w base ok v xs) (hp : 0 < xs.length) :
    ∃ g c, v = .slice (some ⟨g, 0, none⟩) xs.length c ∧ base ≤ g ∧ g < w.heap.size ∧ ok g ∧ ∀ i, i < xs.length → w.cell? ⟨g, i, none⟩ = some (.int .u32 (rd xs i)) := by
  obtain ⟨g, c, rfl, h1, h2, cells, h3⟩ := Kd.R_form h hp
  refine ⟨g, c, rfl, h1, h2, h.1 g rfl, fun i hi => ?_⟩
  have := (Kd.R_celln (0 : Int) h (i : Int) (by omega) (by omega)).1
  rw [Int.toNat_natCast] at this
  exact this

theorem only_block {w : World} {base t n c : Nat} {ok : Nat → Prop} {K : IntKind} {e : TypeId} {xs : List Int} (h : Kd.R (Kd.int K) e w base ok (.slice (some ⟨t, 0, none⟩) n c) xs) : Kd.R (Kd.int K) e w base (fun k => k = t) (.slice (some ⟨t, 0, none⟩) n c) xs :=
  ⟨fun k hk => by simp [Value.ownBlock] at hk; exact hk.symm, h.2⟩
theorem rowsK {w : World} {base : Nat} {ok : Nat → Prop} {v : Value} (h : Kd.R (Kd.int .u32) 43 w base ok v rootsK) :
    ∃ t c, v = .slice (some ⟨t, 0, none⟩) 64 c ∧ base ≤ t ∧ t < w.heap.size := by
  obtain ⟨g, c, hv, h1, h2, _, hc⟩ := rowcells h (by decide)
  exact ⟨g, c, hv, h1, h2⟩

theorem rowsH {w : World} {base : Nat} {ok : Nat → Prop} {v : Value} (h : Kd.R (Kd.int .u32) 43 w base ok v rootsH) :
    ∃ g1 c, v = .slice (some ⟨g1, 0, none⟩) 8 c ∧ base ≤ g1 ∧ g1 < w.heap.size ∧ w.cell? ⟨g1, 0, none⟩ = some (.int .u32 1779033703) ∧ w.cell? ⟨g1, 1, none⟩ = some (.int .u32 3144134277) ∧ w.cell? ⟨g1, 2, none⟩ = some (.int .u32 1013904242) ∧ w.cell? ⟨g1, 3, none⟩ = some (.int .u32 2773480762) ∧ w.cell? ⟨g1, 4, none⟩ = some (.int .u32 1359893119) ∧ w.cell? ⟨g1, 5, none⟩ = some (.int .u32 2600822924) ∧ w.cell? ⟨g1, 6, none⟩ = some (.int .u32 528734635) ∧ w.cell? ⟨g1, 7, none⟩ = some (.int .u32 1541459225) := by
  obtain ⟨g, c, hv, h1, h2, _, hc⟩ := rowcells h (by decide)
  exact ⟨g, c, hv, h1, h2, hc 0 (by decide), hc 1 (by decide), hc 2 (by decide), hc 3 (by decide), hc 4 (by decide), hc 5 (by decide), hc 6 (by decide), hc 7 (by decide)⟩

set_option maxHeartbeats 8000000 in
set_option maxRecDepth 100000 in
theorem new_calls (w : World) : Calls Try.prog 11 #[] w fun e w' => ∃ (g : Nat) (t : Nat) (c : Nat), e = .returned (.pointer (some ⟨g, 0, none⟩)) ∧ w.heap.size ≤ g ∧ w.heap.size ≤ t ∧ t ≠ g ∧
      w'.heap[g]? = some (.cells #[.int .u32 1779033703, .int .u32 3144134277, .int .u32 1013904242, .int .u32 2773480762, .int .u32 1359893119, .int .u32 2600822924, .int .u32 528734635, .int .u32 1541459225, .slice (some ⟨t, 0, none⟩) 64 c, .slice none 0 0, .int .u64 0] 49 (0, 0)) ∧
      Kd.R (Kd.int .u32) 43 w' w.heap.size (fun k => k = t) (.slice (some ⟨t, 0, none⟩) 64 c) rootsK ∧ Below w.heap.size w w' := by
  have hu46 := Try.underlying46
  have hu49 := Try.underlying49
  have hat : ∀ g c w, (Instr.arrayAt 46 (.slice (some ⟨g, 0, none⟩) 8 c)).run Try.prog w = .ok (.pointer (some ⟨g, 0, none⟩)) w := fun g c w => by simp [Instr.arrayAt, run_underlying Try.underlying46]
  go_enter Try.func11, Try.ntmps11
  go_upto_region 1 with (fail)
  go_region_with (first | (go_at_call 19; refine (sha_roots.calls true 64 rootsK w1 rootsK_ok).mono ?_; rintro e w2 ⟨v2, rfl, hr2, hb2⟩; obtain ⟨t2, c2, rfl, ht2, ht2l⟩ := rowsK hr2; have e0 := (hb2.cell (p := ⟨g1, 0, none⟩) hg1l).trans d0; have e1 := (hb2.cell (p := ⟨g1, 1, none⟩) hg1l).trans d1; have e2 := (hb2.cell (p := ⟨g1, 2, none⟩) hg1l).trans d2; have e3 := (hb2.cell (p := ⟨g1, 3, none⟩) hg1l).trans d3; have e4 := (hb2.cell (p := ⟨g1, 4, none⟩) hg1l).trans d4; have e5 := (hb2.cell (p := ⟨g1, 5, none⟩) hg1l).trans d5; have e6 := (hb2.cell (p := ⟨g1, 6, none⟩) hg1l).trans d6; have e7 := (hb2.cell (p := ⟨g1, 7, none⟩) hg1l).trans d7; have HR2 := Aside0.mk hr2; have HB2 := Aside0.mk hb2; clear hr2 hb2) | (go_at_call 19; refine (sha_roots.calls false 8 rootsH w.drew rootsH_ok).mono ?_; rintro e w1 ⟨v1, rfl, hr1, hb1⟩; obtain ⟨g1, c1, rfl, hg1, hg1l, d0, d1, d2, d3, d4, d5, d6, d7⟩ := rowsH hr1; have HR1 := Aside0.mk hr1; have HB1 := Aside0.mk hb1; clear hr1 hb1))
  all_goals
    go_wp2
    go_ret
    have s1 : w.heap.size ≤ w1.heap.size := HB1.out.size
    have s2 := HB2.out.size
    have hb : Below w.heap.size w w2 := (Below.trans (below_drew (Below.refl _ _)) HB1.out : Below w.heap.size w w1).trans (HB2.out.mono s1)
    exact ⟨w2.heap.size, t2, c2, rfl, Nat.le_trans s1 s2, Nat.le_trans s1 ht2, Nat.ne_of_lt ht2l, blk_new _ _, Kd.R_alloc (Kd.R_lower (only_block HR2.out) s1) _, below_alloc hb _⟩

end Go.Proofs.Ytocnkfepiknglaa.PAll
