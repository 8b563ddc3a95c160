/- slices.Clone at bytes. A new hash, as HashAt. (*sha.Hash).Sum of a nil hash. -/
import Derived.Test.YtocnkfepiknglaaPut
import Derived.Lib.SliceRun
import Derived.Test.YtocnkfepiknglaaShaC
import Derived.Test.YtocnkfepiknglaaOut32
namespace Go.Proofs.Ytocnkfepiknglaa.PAll
open Go.RowKit Go.Proofs.YtocnkfepiknglaaW.PrintWords Go.Proofs.YtocnkfepiknglaaW.PrintLast Go.Proofs.YtocnkfepiknglaaW.PrintMore
set_option linter.unusedVariables false
set_option linter.unusedSimpArgs false

theorem below_grown {B b : Nat} {w0 w w' : World} (h : Below B w0 w) (hB : B ≤ w.heap.size) (hb : B ≤ b) (hg : w.grownBy w' (some b)) : Below B w0 w' :=
  h.trans ⟨hg.os, hg.tape, hg.output, hg.size, fun k hk => hg.block k (by omega) (fun e => by injection e with e; omega)⟩
theorem clone_calls (A : Option Addr) (c : Nat) (x : List Int) (w : World) (hC : Kd.C (Kd.int .u8) w A x.length x) (hn : A = none → c = 0 ∧ x = []) (hx : x.length ≤ 1000000) :
    Calls Try.prog 21 #[.slice A x.length c] w fun e w' => ∃ v, e = .returned v ∧ BytesAt w' w.heap.size v x ∧ Below w.heap.size w w' := by
  rcases A with _ | ad
  · obtain ⟨rfl, rfl⟩ := hn rfl
    have hq : ∀ W : World, (binOp .eql 22 (.slice none 0 0) (.slice none 0 0)).run Try.prog W = .ok (.bool true) W := fun W => Lib.run_eql_slice_nil W 22 5 _ _ _ _ _ Try.underlying22
    go_enter Try.func21, Try.ntmps21
    go_wp2
    go_ret
    exact ⟨_, rfl, bytes_nil _ _, Below.refl _ _⟩
  · have hq : ∀ W : World, (binOp .eql 22 (.slice (some ad) x.length c) (.slice none 0 0)).run Try.prog W = .ok (.bool false) W := fun W => Lib.run_eql_slice_nil W 22 5 _ _ _ _ _ Try.underlying22
    have HC := Aside0.mk hC
    clear hC
    go_enter Try.func21, Try.ntmps21
    have h0 : BytesAt (w.alloc (.cells #[] 5)) w.heap.size (.slice (some ⟨w.heap.size, 0, none⟩) 0 0) [] := ⟨rfl, .inl ⟨rfl, some ⟨w.heap.size, 0, none⟩, rfl, fun a ha => by injection ha with ha; subst ha; exact ⟨Nat.le_refl _, _, blk_new _ _⟩⟩⟩
    have hal : Below w.heap.size w (w.alloc (.cells #[] 5)) := below_alloc (Below.refl _ _) _
    have HC1 := Aside0.mk (Kd.C_below HC.out hal)
    have H0 := Aside0.mk h0
    clear h0
    go_wp2_with ((with_reducible refine gate_dst (N := 7) rfl ?_); refine bytes_append_at rfl (.tmp 5) (.tmp 6) rfl c rfl rfl H0.out HC1.out (by simp; omega) (by simp) ?_; intro v' w2 hq2 hg2 hat; rw [List.nil_append] at hq2; have HQ2 := Aside0.mk hq2; have HG2 := Aside0.mk hg2; clear hq2 hg2 hat)
    go_ret
    exact ⟨_, rfl, HQ2.out, below_grown hal (by simp) (Nat.le_refl _) HG2.out⟩

end Go.Proofs.Ytocnkfepiknglaa.PAll
namespace Go.Proofs.Ytocnkfepiknglaa.PAll
open Go.RowKit Go.Proofs.YtocnkfepiknglaaW.PrintWords Go.Proofs.YtocnkfepiknglaaW.PrintLast Go.Proofs.YtocnkfepiknglaaW.PrintMore
set_option linter.unusedVariables false
set_option linter.unusedSimpArgs false

def stH : St := ⟨1779033703, 3144134277, 1013904242, 2773480762, 1359893119, 2600822924, 528734635, 1541459225⟩
theorem new_hash (w : World) : Calls Try.prog 11 #[] w fun e w' => ∃ (g t c : Nat), e = .returned (.pointer (some ⟨g, 0, none⟩)) ∧ HashAt w' w.heap.size g t c stH [] 0 ∧ Below w.heap.size w w' := by
  refine (new_calls w).mono ?_
  rintro e w' ⟨g, t, c, rfl, hg, ht, htg, hh, hr, hb⟩
  refine ⟨g, t, c, rfl, ⟨.slice none 0 0, hh, bytes_nil _ _, hg, ?_, ?_, fun x hx => by simp at hx⟩, hb⟩
  · obtain ⟨g', c', he, _, _, cells, hc⟩ := Kd.R_form hr (by decide)
    injection he with h1 _ _
    injection h1 with h1
    injection h1 with h1 _
    subst h1
    exact ⟨cells, hc⟩
  · obtain ⟨g', c', he, _, _, _, hc⟩ := rowcells hr (by decide)
    injection he with h1 _ _
    injection h1 with h1
    injection h1 with h1 _
    subst h1
    exact fun i hi => hc i hi

end Go.Proofs.Ytocnkfepiknglaa.PAll
namespace Go.Proofs.Ytocnkfepiknglaa.PAll
open Go.RowKit Go.Proofs.YtocnkfepiknglaaW.PrintWords Go.Proofs.YtocnkfepiknglaaW.PrintLast Go.Proofs.YtocnkfepiknglaaW.PrintMore
set_option linter.unusedVariables false
set_option linter.unusedSimpArgs false

set_option maxHeartbeats 8000000 in
set_option maxRecDepth 100000 in
theorem sum_nil (w : World) : Calls Try.prog 13 #[.pointer none] w fun e w' => e = .returned (.agg (arr32 zeros32)) ∧ Below w.heap.size w w' := by
  go_enter Try.func13, Try.ntmps13
  go_upto_region 3 with (fail)
  obtain ⟨W, hW, h2, h3, hb⟩ : ∃ W, W = (w.alloc (.cells (arr32 zeros32) 24)).alloc (.cells (arr32 zeros32) 24) ∧ W.heap[w.heap.size]? = some (.cells (arr32 zeros32) 24 (0, 0)) ∧ W.heap[w.heap.size + 1]? = some (.cells (arr32 zeros32) 24 (0, 0)) ∧ Below w.heap.size w W :=
    ⟨_, rfl, heap_alloc2_old _ _ _, heap_alloc2_new _ _ _, below_alloc (below_alloc (Below.refl _ _) _) _⟩
  have hWe : (w.alloc (.cells (arr32 zeros32) 24)).alloc (.cells (arr32 zeros32) 24) = W := hW.symm
  change Code.wp _ _ _ _ ((w.alloc (.cells (arr32 zeros32) 24)).alloc (.cells (arr32 zeros32) 24))
  rw [hWe]
  clear hW hWe
  have hz : (arr32 zeros32).size = 32 := arr32_size _ rfl
  go_wp2_with (first | ((with_reducible refine gate_dst (N := 12) rfl ?_); refine load32_at rfl (.tmp 3) rfl rfl h3 hz ?_) | ((with_reducible refine gate_store (t := 24) (p := 2) rfl ?_); refine store32_at rfl (.tmp 2) (.tmp 12) rfl rfl rfl h2 hz hz (arr32_one _) ?_))
  refine bodyPost_ret (v := .agg (arr32 zeros32)) ?_ rfl ⟨rfl, ?_⟩
  · have hres : Try.f13.results = #[.cell 2 24] := by kernel_rfl
    have hl := run_loadVar_row (P := Try.prog) (W.setRow w.heap.size (arr32 zeros32)) w.heap.size 24 24 (arr32 zeros32) (0, 0) _ (setRow_heap h2) Try.underlying24 rfl (by rw [hz]; exact size24)
    simp [results, hres, Act.put, asAddr, hl, Result.andThen]
  · exact ⟨hb.os, hb.tape, hb.output, by simpa [World.setRow] using hb.size, fun k hk => (setRow_far (by omega)).trans (hb.block k hk)⟩

end Go.Proofs.Ytocnkfepiknglaa.PAll
