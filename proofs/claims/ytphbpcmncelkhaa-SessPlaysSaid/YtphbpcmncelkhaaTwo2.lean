/- Two books behind a call of each: what SessPlays' walk wants. -/
import Derived.Test.YtphbpcmncelkhaaTwo
namespace Go.Proofs.Ytphbpcmncelkhaa.Sess
open Go.RowKit Go.Shelf Go.Proofs.YtphbpcmncelkhaaW.PrintWords Go.Proofs.YtphbpcmncelkhaaW.PrintLast Go.Proofs.YtphbpcmncelkhaaW.PrintMore Go.Proofs.Ytphbpcmncelkhaa.PSessPlays
set_option linter.unusedVariables false
set_option linter.unusedSimpArgs false

/-- Behind both Begins. -/
theorem two_begun {w wr wa wA wB wC wl wD wE : World} {g1 g2 : Nat} {room life last' last2 : Int} {l l2 : List S34} {i : Nat} {F1 F2 : Nat → Prop}
    (hbd : 0 ≤ last2 ∧ last2 ≤ 18446744073709551615 ∧ l2.length ≤ i + 1) (hbl : Below w.heap.size w wr) (hba : Below wr.heap.size wr wa) (hA : Below wa.heap.size wa wA) (hB : Below wA.heap.size wA wB) (hC : Ft F1 wB wC)
    (hl : Ft (fun j => wa.heap.size ≤ j ∧ j < wA.heap.size) wC wl) (hD : Below wl.heap.size wl wD) (hE : Ft F2 wD wE)
    (hf1 : ∀ k, F1 k → w.heap.size ≤ k ∧ k < wr.heap.size) (hf2 : ∀ k, F2 k → w.heap.size ≤ k ∧ k < wr.heap.size) (hf3 : ∀ k, F1 k → ¬ F2 k)
    (hb1 : BookAt wC w.heap.size (fun k => (F1 k ∨ wB.heap.size ≤ k) ∧ k < wC.heap.size) g1 58 room life last2 l2) (hb2 : BookAt wE w.heap.size (fun k => (F2 k ∨ wD.heap.size ≤ k) ∧ k < wE.heap.size) g2 45 room life last2 l2) :
    TwoB w wE g1 g2 room life last2 l2 (i + 1) := by
  have s0 := hbl.size
  have s1 := hba.size
  have s2 := hA.size
  have s3 := hB.size
  have s4 := hC.size
  have s5 := hl.size
  have s6 := hD.size
  have s7 := hE.size
  refine ⟨_, _, hbd, hb1.step (fun k hk _ => ?_), hb2, fun k hk => ⟨?_, ?_⟩, fun k hk => ⟨?_, hk.2⟩, fun k hk h2 => ?_, ?_⟩
  · have h1 := hk.2
    have e1 : wl.heap[k]? = wC.heap[k]? := hl.block k h1 (fun h => by rcases hk.1 with h3 | h3; have := (hf1 k h3).2; omega; omega)
    have e2 : wD.heap[k]? = wl.heap[k]? := hD.block k (by omega)
    have e3 : wE.heap[k]? = wD.heap[k]? := hE.block k (by omega) (fun h => by rcases hk.1 with h3 | h3; exact hf3 k h3 h; have := (hf2 k h).2; omega)
    exact e3.trans (e2.trans e1)
  · rcases hk.1 with h3 | h3
    · exact (hf1 k h3).1
    · omega
  · have := hk.2; omega
  · rcases hk.1 with h3 | h3
    · exact (hf2 k h3).1
    · omega
  · rcases hk.1 with h3 | h3 <;> rcases h2.1 with h4 | h4
    · exact hf3 k h3 h4
    · have := (hf1 k h3).2; omega
    · have := (hf2 k h4).2; omega
    · have := hk.2; omega
  · have b1 := hC.below (((hbl.trans (hba.mono s0)).trans (hA.mono (by omega))).trans (hB.mono (by omega))) (by omega) (fun k hk => (hf1 k hk).1)
    have b2 := hl.below b1 (by omega) (fun k hk => by omega)
    exact hE.below (b2.trans (hD.mono (by omega))) (by omega) (fun k hk => (hf2 k hk).1)

/-- A block of the round's own, kept through both Begins. -/
theorem begun_kept {w wr wa wA wB wC wl wD wE : World} {F1 F2 : Nat → Prop} {g : Nat} {o : Obj} (hx : wa.heap[g]? = some o) (hg : wr.heap.size ≤ g) (hA : Below wa.heap.size wa wA) (hB : Below wA.heap.size wA wB) (hC : Ft F1 wB wC)
    (hl : Ft (fun j => wa.heap.size ≤ j ∧ j < wA.heap.size) wC wl) (hD : Below wl.heap.size wl wD) (hE : Ft F2 wD wE)
    (hf1 : ∀ k, F1 k → w.heap.size ≤ k ∧ k < wr.heap.size) (hf2 : ∀ k, F2 k → w.heap.size ≤ k ∧ k < wr.heap.size) : wl.heap[g]? = some o ∧ wE.heap[g]? = some o := by
  have hlt : g < wa.heap.size := by
    rcases Nat.lt_or_ge g wa.heap.size with h | h
    · exact h
    · rw [Array.getElem?_eq_none h] at hx; cases hx
  have s2 := hA.size
  have s3 := hB.size
  have s4 := hC.size
  have s5 := hl.size
  have s6 := hD.size
  have e1 := (hA.block g hlt).trans hx
  have e2 := (hB.block g (by omega)).trans e1
  have e3 := (hC.block g (by omega) (fun h => by have := (hf1 g h).2; omega)).trans e2
  have e4 := (hl.block g (by omega) (fun h => by omega)).trans e3
  have e5 := (hD.block g (by omega)).trans e4
  exact ⟨e4, (hE.block g (by omega) (fun h => by have := (hf2 g h).2; omega)).trans e5⟩

/-- Behind both Takes. -/
theorem two_taken {w wr wa w4 w5 w6 w8 : World} {g1 g2 : Nat} {room life last' : Int} {l2 : List S34} {i : Nat} {F1 F2 : Nat → Prop}
    (hbd : 0 ≤ last' ∧ last' ≤ 18446744073709551615 ∧ l2.length ≤ i + 1) (hbl : Below w.heap.size w wr) (hba : Below wr.heap.size wr wa) (h4 : Ft F1 wa w4) (h5 : Below w4.heap.size w4 w5) (h6 : Ft F2 w5 w6) (h8 : Below w6.heap.size w6 w8)
    (hf1 : ∀ k, F1 k → w.heap.size ≤ k ∧ k < wr.heap.size) (hf2 : ∀ k, F2 k → w.heap.size ≤ k ∧ k < wr.heap.size) (hf3 : ∀ k, F1 k → ¬ F2 k)
    (hb1 : BookAt w4 w.heap.size F1 g1 58 room life last' l2) (hb2 : BookAt w6 w.heap.size (fun k => (F2 k ∨ w5.heap.size ≤ k) ∧ k < w6.heap.size) g2 45 room life last' l2) :
    TwoB w w8 g1 g2 room life last' l2 (i + 1) := by
  have s0 := hbl.size
  have s1 := hba.size
  have s4 := h4.size
  have s5 := h5.size
  have s6 := h6.size
  have s8 := h8.size
  refine ⟨F1, _, hbd, hb1.step (fun k hk hlt => ?_), hb2.step (fun k _ hlt => h8.block k hlt), fun k hk => ⟨(hf1 k hk).1, by have := (hf1 k hk).2; omega⟩, fun k hk => ⟨?_, by have := hk.2; omega⟩, fun k hk h2 => ?_, ?_⟩
  · exact (h8.block k (by omega)).trans ((h6.block k (by omega) (hf3 k hk)).trans (h5.block k hlt))
  · rcases hk.1 with h3 | h3
    · exact (hf2 k h3).1
    · omega
  · rcases h2.1 with h3 | h3
    · exact hf3 k hk h3
    · have := (hf1 k hk).2; omega
  · have b1 := h4.below (hbl.trans (hba.mono s0)) (by omega) (fun k hk => (hf1 k hk).1)
    have b2 := h6.below (b1.trans (h5.mono (by omega))) (by omega) (fun k hk => (hf2 k hk).1)
    exact b2.trans (h8.mono (by omega))

end Go.Proofs.Ytphbpcmncelkhaa.Sess
