/- A slice of slices of bytes that came in, opened. -/
import Derived.Test.YtocnkfepiknglaaPut2
import Derived.Deep.Matrix
import Derived.SizedLaws
namespace Go.Proofs.Ytocnkfepiknglaa.PAll
open Go.RowKit Go.ChangeShapes Go.WideShapes Go.Deep Go.Proofs.YtocnkfepiknglaaW.PrintWords Go.Proofs.YtocnkfepiknglaaW.PrintLast Go.Proofs.YtocnkfepiknglaaW.PrintMore
set_option linter.unusedVariables false
set_option linter.unusedSimpArgs false

theorem wfB {n : Int} (h : (Lit.int .u8 n).wf = true) : 0 ≤ n ∧ n ≤ 255 := by
  have := Bool.and_eq_true_iff.1 h
  exact ⟨of_decide_eq_true this.1, of_decide_eq_true this.2⟩
theorem weightsAll_mem {H : Type} {P : Program} {e : TypeId} : ∀ {ds : List (DataW H)} {d : DataW H}, d ∈ ds → ∀ n ∈ d.weights P e, n ∈ DataW.weightsAll P e ds
  | d0 :: ds, d, hd, n, hn => by
    simp only [DataW.weightsAll, List.mem_append]
    rcases List.mem_cons.1 hd with rfl | h
    · exact Or.inl hn
    · exact Or.inr (weightsAll_mem h n hn)
/-- What the walk wants of such an argument. -/
def PiecesAt (w : World) (oa : Option Addr) (n : Nat) : Prop :=
  ∀ r, r < n → ∃ a Ar Cr br, oa = some a ∧ a.block < w.heap.size ∧ w.cell? (a.add r) = some (.slice Ar (br : List Int).length Cr) ∧ Kd.C (Kd.int .u8) w Ar br.length br ∧ (∀ x ∈ br, 0 ≤ x ∧ x ≤ 255) ∧ br.length ≤ 140737488355328
theorem pieces_of {H : Type} {enc : TypeId × Value → H} {W : World} {a0 : Option Addr} {len0 cap0 : Nat} {d0 : DataW H} {p0 : List MemPlace} {ts : List TypeId} {ds : List (DataW H)} {j : Nat}
    (u27 : Try.prog.underlying 27 = some (.slice 22)) (hsz : (DataW.weightsEach Try.prog ts ds).all (· ≤ reachBytes) = true) (ht : ts[j]? = some 27) (hd : ds[j]? = some d0)
    (h0 : DataW.Trod enc Try.prog W 0 (fun _ => true) true 27 (.slice a0 len0 cap0) d0 p0) : PiecesAt W a0 len0 ∧ len0 ≤ 140737488355328 := by
  obtain ⟨fuel, hf⟩ := h0
  have b5 : Try.prog.bytesOf 5 = 1 := by kernel_rfl
  have b22 : Try.prog.bytesOf 22 = 24 := by kernel_rfl
  have hrb := reachBytes_lt
  rcases open_int_rows u27 Try.underlying22 Try.underlying5 (by kernel_rfl) (by kernel_rfl) hf with ⟨hcs, hx⟩ | ⟨a, len, cap, A, L, C, Z, hcs, _, hl, hm, hx, hrows⟩
  · simp [Value.cells] at hcs
    obtain ⟨rfl, rfl, rfl⟩ := hcs
    exact ⟨fun r hr => by omega, by omega⟩
  · simp [Value.cells] at hcs
    obtain ⟨rfl, rfl, rfl⟩ := hcs
    obtain ⟨hx, _⟩ := Prod.mk.inj hx
    subst hx
    have hz := sized_slice hsz ht hd u27
    rw [b22] at hz
    simp only [List.length_map, List.length_range] at hz
    refine ⟨fun r hr => ?_, by omega⟩
    obtain ⟨h1, h2, h3, h4, h5, h6, h7⟩ := hrows r (by omega)
    have hblk := World.block_lt_of_cell? W _ h1
    rw [show (a.add r).block = a.block by unfold Addr.add; split <;> rfl] at hblk
    have hrow : (A r = none ∧ L r = 0 ∧ C r = 0 ∧ Z r = []) ∨ ∃ x, A r = some x ∧ L r ≤ C r ∧ C r ≤ maxLen ∧ (Z r).length = C r ∧ (∀ i, i < (Z r).length → W.cell? (x.add i) = some (.int .u8 ((Z r).getD i 0))) ∧ ∀ n ∈ Z r, (Lit.int .u8 n).wf = true := by
      cases hA : A r with
      | none =>
        have hc := h6 hA
        exact .inl ⟨rfl, by omega, hc, List.eq_nil_of_length_eq_zero (by omega)⟩
      | some x => exact .inr ⟨x, rfl, h2, h3, h4, fun i hi => (h7 x hA).2 i (by omega), h5⟩
    obtain ⟨l, hl1, hr0, hm0, hw0, hc0⟩ := ReadsInt.ofRowC hrow
    refine ⟨a, A r, C r, l, rfl, hblk, by rw [← hl1]; exact h1, Kd.C_of_reads (d := (0 : Int)) (h1 := fun _ => rfl) hr0, fun x hx => wfB (hw0 x hx), ?_⟩
    rcases Nat.eq_zero_or_pos l.length with h0 | hpos
    · omega
    · cases hA : A r with
      | none => have := h6 hA; omega
      | some x =>
        have hmem : (C r) * 1 ∈ DataW.weightsEach Try.prog ts ds := by
          refine DataW.weights_mem_each ht hd _ ?_
          simp only [DataW.weights, u27]
          refine List.mem_cons_of_mem _ (List.mem_append_left _ (weightsAll_mem (d := intRow .u8 (A r) (L r) (Z r)) (List.mem_map.2 ⟨r, List.mem_range.2 hr, rfl⟩) _ ?_))
          rw [hA]
          simp only [intRow, DataW.weights, Try.underlying22, b5]
          have e : (lits (H := H) IntKind.u8 ((Z r).take (L r))).length + (lits (H := H) IntKind.u8 ((Z r).drop (L r))).length = C r := by
            simp [lits]
            omega
          rw [e]
          exact List.mem_cons_self
        have := List.all_eq_true.1 hsz _ hmem
        simp only [decide_eq_true_eq] at this
        omega
end Go.Proofs.Ytocnkfepiknglaa.PAll
