/- slices.Clone at bytes. -/
import Derived.Test.YtocnkfepiknglaaPut
import Derived.Lib.SliceRun
namespace Go.Proofs.Ytocnkfepiknglaa.PAll
open Go.RowKit Go.Proofs.YtocnkfepiknglaaW.PrintWords Go.Proofs.YtocnkfepiknglaaW.PrintLast Go.Proofs.YtocnkfepiknglaaW.PrintMore
set_option linter.unusedVariables false
set_option linter.unusedSimpArgs false

theorem below_grown {B b : Nat} {w0 w w' : World} (h : Below B w0 w) (hB : B ≤ w.heap.size) (hb : B ≤ b) (hg : w.grownBy w' (some b)) : Below B w0 w' :=
  h.trans ⟨hg.os, hg.tape, hg.output, hg.size, fun k hk => hg.block k (by omega) (fun e => by injection e with e; omega)⟩
theorem clone_calls (A : Option Addr) (c : Nat) (x : List Int) (w : World) (hC : Kd.C (Kd.int .u8) w A x.length x) (hn : A = none → c = 0 ∧ x = []) (hx : x.length ≤ 1000000) :
    Calls Try.prog 21 #[.slice A x.length c] w fun e w' => ∃ v, e = .returned v ∧ BytesAt w' w.heap.size v x ∧ Below w.heap.size w w' := by
  rcases A with _ | ad
  · obtain ⟨rfl, rfl⟩ := hn rfl
    have hq : ∀ W : World, (binOp .eql 22 (.slice none 0 0) (.slice none 0 0)).run Try.prog W = .ok (.bool true) W := fun W => Lib.run_eql_slice_nil W 22 5 _ _ _ _ _ Try.underlying22
    go_enter Try.func21, Try.ntmps21
    go_wp2
    go_ret
    exact ⟨_, rfl, bytes_nil _ _, Below.refl _ _⟩
  · have hq : ∀ W : World, (binOp .eql 22 (.slice (some ad) x.length c) (.slice none 0 0)).run Try.prog W = .ok (.bool false) W := fun W => Lib.run_eql_slice_nil W 22 5 _ _ _ _ _ Try.underlying22
    have HC := Aside0.mk hC
    clear hC
    go_enter Try.func21, Try.ntmps21
    have h0 : BytesAt (w.alloc (.cells #[] 5)) w.heap.size (.slice (some ⟨w.heap.size, 0, none⟩) 0 0) [] := ⟨rfl, .inl ⟨rfl, some ⟨w.heap.size, 0, none⟩, rfl, fun a ha => by injection ha with ha; subst ha; exact ⟨Nat.le_refl _, _, blk_new _ _⟩⟩⟩
    have hal : Below w.heap.size w (w.alloc (.cells #[] 5)) := below_alloc (Below.refl _ _) _
    have HC1 := Aside0.mk (Kd.C_below HC.out hal)
    have H0 := Aside0.mk h0
    clear h0
    go_wp2_with ((with_reducible refine gate_dst (N := 7) rfl ?_); refine bytes_append_at rfl (.tmp 5) (.tmp 6) rfl c rfl rfl H0.out HC1.out (by simp; omega) (by simp) ?_; intro v' w2 hq2 hg2 hat; rw [List.nil_append] at hq2; have HQ2 := Aside0.mk hq2; have HG2 := Aside0.mk hg2; clear hq2 hg2 hat)
    go_ret
    exact ⟨_, rfl, HQ2.out, below_grown hal (by simp) (Nat.le_refl _) HG2.out⟩

end Go.Proofs.Ytocnkfepiknglaa.PAll
