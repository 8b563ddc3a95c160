/- The walk of latchkeylaw03.ShaOf. -/
import Derived.Test.YtocnkfepiknglaaRefM
import Derived.Test.YtocnkfepiknglaaLong
namespace Go.Proofs.Ytocnkfepiknglaa.PAll
open Go.RowKit Go.Proofs.YtocnkfepiknglaaW.PrintWords Go.Proofs.YtocnkfepiknglaaW.PrintLast Go.Proofs.YtocnkfepiknglaaW.PrintMore
set_option linter.unusedVariables false
set_option linter.unusedSimpArgs false

set_option maxHeartbeats 8000000 in
set_option maxRecDepth 100000 in
theorem shaOf_list (A : Option Addr) (c : Nat) (b : List Int) (w : World) (hC : Kd.C (Kd.int .u8) w A b.length b) (hby : ByteL b) (hm : b.length ≤ maxLen) : Calls Try.prog 3 #[.slice A b.length c] w fun e w' => e = .returned (.bool true) ∧ Below w.heap.size w w' := by
  have HC := Aside0.mk hC
  have HBY := Aside0.mk hby
  clear hC hby
  unfold maxLen at hm
  go_enter Try.func3, Try.ntmps3
  go_upto_region 3 with (first | (go_at_call 8; (with_reducible refine (awake_calls _).mono ?_); rintro e w1 ⟨rfl, hb1⟩; have HB1 := Aside0.mk hb1; clear hb1))
  by_cases hl : b.length ≤ 5000
  · have hlz : decide ((5000 : Int) < (b.length : Int)) = false := decide_eq_false (by omega)
    have HC1 := Aside0.mk (Kd.C_below HC.out HB1.out)
    have he := eq_hash b
    go_wp2_with (first | ((with_reducible refine gate_dst (N := 9) rfl ?_); refine Kd.R_lit (Kd.int .u8) _ 5 ?hg (N := 9) ?hd (xs := ([] : List Int)) (inner := []) (ok := fun _ => True) (okp := fun _ => True) ?hr ?hp (fun _ hk => hk) trivial (Below.refl _ _) (Nat.le_refl _) (by simp) ?_; (case hd => rfl); (case hg => rfl); (case hr => first | (go_simp; done) | (go_simp; rfl)); (case hp => exact (Reps.none _ _)); intro v3 w3 ho hb hg_ hnew_; clear hg_ hnew_; have HO3 := Aside0.mk ho; have HB3 := Aside0.mk hb; clear ho hb) | ((with_reducible refine gate_builtin (b := .append) (xs := #[.tmp 9, .tmp 10]) rfl ?_); at_builtin; refine Kd.R_append_rows (Kd.int .u8) (w0 := w1) w1.heap.size rfl (.tmp 9) (.tmp 10) 22 5 (.int .u8 0) 1 rfl Try.underlying22 infoB rfl (by decide) (by omega) v3 ([] : List Int) b _ _ _ (fun _ => True) (fun _ => False) rfl rfl HO3.out ?aR (fun _ _ h => h) (fun _ h => h.elim) (fun _ _ => trivial) HB3.out HB3.out.size ?aL ?_; (case aR => exact (Kd.C_below HC1.out HB3.out)); (case aL => simp; omega); intro v4 w4 ho hb hg hat; rw [List.nil_append] at ho; obtain ⟨A4, c4, rfl, hlc, hC4⟩ := Kd.R_reads ho; have hab : (∀ a, A4 = some a → a.block < w4.heap.size) := (fun a ha => ((Kd.R_bound ho).1 a.block (by rw [ha]; rfl)).2.2.1); have HC4 := Aside0.mk hC4; have HAB := Aside0.mk hab; have HB4 := Aside0.mk hb; clear ho hb hg hat hC4 hab) | (go_at_call 9; (with_reducible refine (of_calls c4 HC4.out HAB.out HBY.out (by omega)).mono ?_); rintro e w5 ⟨rfl, hb5⟩; have HB5 := Aside0.mk hb5; clear hb5; have HC5 := Aside0.mk (Kd.C_below (Kd.C_below HC1.out HB4.out) HB5.out)) | (go_at_call 10; (with_reducible refine (ref_calls A c b _ HC5.out (by omega) HBY.out).mono ?_); rintro e w6 ⟨rfl, hb6⟩; have HB6 := Aside0.mk hb6; clear hb6; have hs1 := Kd.C_string (src := 22) (dst := 9) (c := c4) Try.underlying22 Try.underlying5 Try.underlying9 (Kd.C_below (Kd.C_below HC4.out HB5.out) HB6.out); have hs2 := Kd.C_string (src := 22) (dst := 9) (c := c) Try.underlying22 Try.underlying5 Try.underlying9 (Kd.C_below HC5.out HB6.out)))
    go_ret
    have s1 := HB1.out.size
    have s4 := HB4.out.size
    have s5 := HB5.out.size
    exact ⟨rfl, (HB1.out.trans (HB4.out.mono s1)).trans ((HB5.out.mono (by omega)).trans (HB6.out.mono (by omega)))⟩
  · have hlz : decide ((5000 : Int) < (b.length : Int)) = true := decide_eq_true (by omega)
    go_wp2
    go_ret
    exact ⟨rfl, HB1.out⟩
theorem shaOf_walk (a0 : Option Addr) (len0 cap0 : Nat) (z0 : List Int) (w : World) (w0 : (a0 = none ∧ len0 = 0 ∧ cap0 = 0 ∧ z0 = []) ∨ ∃ x, a0 = some x ∧ len0 ≤ cap0 ∧ cap0 ≤ maxLen ∧ z0.length = cap0 ∧ (∀ i, i < z0.length → w.cell? (x.add i) = some (.int .u8 (z0.getD i 0))) ∧ ∀ n ∈ z0, (Lit.int .u8 n).wf = true) :
    Calls Try.prog 3 #[.slice a0 len0 cap0] w fun e w' => e = .returned (.bool true) ∧ Below w.heap.size w w' := by
  obtain ⟨l0, rfl, hr0, hm0, hw0, hc0⟩ := ReadsInt.ofRowC w0
  exact shaOf_list a0 cap0 l0 w (Kd.C_of_reads (d := (0 : Int)) (h1 := fun _ => rfl) hr0) (fun x hx => wf_bounds (hw0 x hx)) hm0
end Go.Proofs.Ytocnkfepiknglaa.PAll
