/- Bytes at an offset, of a block of one's own: append, slices. -/
import Derived.Test.YtocnkfepiknglaaPAllx0
namespace Go.Proofs.Ytocnkfepiknglaa.PAll
open Go.RowKit Go.Proofs.YtocnkfepiknglaaW.PrintWords Go.Proofs.YtocnkfepiknglaaW.PrintLast Go.Proofs.YtocnkfepiknglaaW.PrintMore
set_option linter.unusedVariables false
set_option linter.unusedSimpArgs false

theorem infoB : (Try.prog.info? 5).map (fun i => (i.zero, i.size, i.bytes)) = some (some (.int .u8 0), 1, 1) := by kernel_rfl
def bytesV (xs : List Int) : List Value := xs.map (Value.int .u8)
theorem bytesV_length (xs : List Int) : (bytesV xs).length = xs.length := by simp [bytesV]
/-- v: bytes xs, in a block of one's own from base on. -/
def BytesAt (w : World) (base : Nat) (v : Value) (xs : List Int) : Prop := QRow w base 5 1 v xs.length (bytesV xs)

theorem bytes_nil (w : World) (base : Nat) : BytesAt w base (.slice none 0 0) [] := ⟨rfl, .inl ⟨rfl, none, rfl, fun a h => by cases h⟩⟩
theorem bytes_slice {w : World} {base : Nat} {v : Value} {xs : List Int} (h : BytesAt w base v xs) : ∃ A c, v = .slice A xs.length c := by
  rcases h.2 with ⟨h0, A, rfl, _⟩ | ⟨g, off, cap, cur, rfl, _⟩
  · exact ⟨A, 0, by rw [h0]⟩
  · exact ⟨_, _, rfl⟩
theorem bytes_step {w w' : World} {base : Nat} {v : Value} {xs : List Int} (h : BytesAt w base v xs) (hm : ∀ k, v.ownBlock = some k → w'.heap[k]? = w.heap[k]?) : BytesAt w' base v xs := q_move h hm

theorem bytes_append {w : World} {base : Nat} {v : Value} {xs ys : List Int} {A : Option Addr} (c : Nat) (h : BytesAt w base v xs) (hC : Kd.C (Kd.int .u8) w A ys.length ys) (hl : xs.length + ys.length ≤ 140737488355328) (hbase : base ≤ w.heap.size) (ty : TypeId) :
    ∃ v' w', (Builtin.append_ #[22, 22] ty #[v, .slice A ys.length c]).run Try.prog w = .ok v' w' ∧ BytesAt w' base v' (xs ++ ys) ∧ w.grownBy w' v.ownBlock ∧ (v'.ownBlock = v.ownBlock ∨ ∃ b, v'.ownBlock = some b ∧ w.heap.size ≤ b) := by
  obtain ⟨i0, hi, hzz⟩ := Option.map_eq_some_iff.1 infoB
  simp only [Prod.mk.injEq] at hzz
  obtain ⟨hz0, hz1, hz2⟩ := hzz
  rcases Nat.eq_zero_or_pos ys.length with h0 | h0
  · obtain rfl : ys = [] := List.eq_nil_of_length_eq_zero h0
    refine ⟨v, w, ?_, by rw [List.append_nil]; exact h, World.grownBy.refl w _, .inl rfl⟩
    rcases h.2 with ⟨hn, A', rfl, _⟩ | ⟨g, off, cap, cur, rfl, _, _, hnc, _⟩
    · cases A' <;> cases A <;> simp [Builtin.append_, run_underlying Try.underlying22, sizeOf, typeInfo, hi, Builtin.lenOf, Builtin.firstCells, storeCells, loadCells, loadCellsFrom]
    · cases A <;> simp [Builtin.append_, run_underlying Try.underlying22, sizeOf, typeInfo, hi, Builtin.lenOf, Builtin.firstCells, hnc, storeCells, loadCells, loadCellsFrom]
  · obtain ⟨ad, rfl, hc⟩ := hC.2.2 h0
    have hnews : ∀ j u, (bytesV ys)[j]? = some u → w.cell? (ad.add j) = some u := by
      intro j u hu
      unfold bytesV at hu
      rw [List.getElem?_map] at hu
      cases hy : ys[j]? with
      | none => rw [hy] at hu; cases hu
      | some y =>
        rw [hy] at hu
        obtain ⟨c', hc1, hc2, hc3⟩ := hc j y hy
        have h3 := hc3 0 (.int .u8 y) (by rw [show c' = [Value.int .u8 y] from hc2]; rfl)
        simp only [Option.map_some, Option.some.injEq] at hu
        rw [← hu]
        simpa [Kd.int, Kd.scalar] using h3
    obtain ⟨v', w', hr, hq, hg, hat⟩ := q_append (P := Try.prog) w base 22 ty 5 i0 (.int .u8 0) 1 1 Try.underlying22 hi hz0 hz1 hz2 rfl (by decide) v xs.length (bytesV xs) h ad ys.length c (bytesV ys)
      (by rw [bytesV_length, Nat.mul_one]) hnews (fun u hu => by obtain ⟨y, _, rfl⟩ := List.mem_map.1 hu; rfl) h0 (by unfold maxLen; omega) (by omega) hbase
    refine ⟨v', w', hr, ?_, hg, hat⟩
    unfold BytesAt
    rw [List.length_append, show bytesV (xs ++ ys) = bytesV xs ++ bytesV ys by simp [bytesV]]
    exact hq

theorem bytes_cell {w : World} {base n c : Nat} {A : Option Addr} {xs : List Int} (h : BytesAt w base (.slice A n c) xs) (hn : 0 < xs.length) :
    ∃ g off, A = some ⟨g, off, none⟩ ∧ n = xs.length ∧ base ≤ g ∧ g < w.heap.size ∧ n ≤ c ∧ (∃ cur, w.heap[g]? = some (.cells cur 5 (0, 0))) ∧ ∀ i, i < xs.length → w.cell? ⟨g, off + i, none⟩ = some (.int .u8 (rd xs i)) := by
  have h2 := h.2
  rcases h2 with ⟨h0, _⟩ | ⟨g, off, cap, cur, he, hb, hh, hnc, hm, hcs, ht⟩
  · omega
  · injection he with h1 h2 h3
    subst h1 h2 h3
    refine ⟨g, off, by rw [Nat.mul_one], rfl, hb, blk_lt hh, hnc, ⟨cur, hh⟩, fun i hi => ?_⟩
    have hq : QRow w base 5 1 (.slice (some ⟨g, off * 1, none⟩) xs.length c) xs.length (bytesV xs) := h
    obtain ⟨ad, ha, hc⟩ := q_cells hq hn
    injection ha with ha
    have h4 := hc i (.int .u8 (rd xs i)) (by
      unfold bytesV rd
      rw [List.getElem?_map, Int.toNat_natCast, List.getD_eq_getElem?_getD, List.getElem?_eq_getElem hi]
      rfl)
    rw [← ha, Nat.mul_one] at h4
    cases i with
    | zero => simpa [Addr.add] using h4
    | succ i => simpa [Addr.add] using h4
theorem bytes_drop {w : World} {base n c k : Nat} {A : Option Addr} {xs : List Int} (h : BytesAt w base (.slice A n c) xs) (hn : n = xs.length) (hk : k ≤ xs.length) :
    BytesAt w base (.slice (if c = k then A else A.map (·.add k)) (n - k) (c - k)) (xs.drop k) := by
  subst hn
  have := q_drop (k := k) h hk
  unfold BytesAt
  rw [List.length_drop]
  simpa [bytesV, List.map_drop] using this

end Go.Proofs.Ytocnkfepiknglaa.PAll
