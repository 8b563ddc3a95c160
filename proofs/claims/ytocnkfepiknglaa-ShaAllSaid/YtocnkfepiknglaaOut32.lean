/- An array of 32 bytes by value: loaded and stored whole. Arrays of 32 bytes; the bytes of eight words. -/
import Derived.Test.YtocnkfepiknglaaPAllx0
import Derived.Laws.Rows
import Derived.Laws.Tables
namespace Go.Proofs.Ytocnkfepiknglaa.PAll
open Go.RowKit Go.Proofs.YtocnkfepiknglaaW.PrintWords Go.Proofs.YtocnkfepiknglaaW.PrintLast Go.Proofs.YtocnkfepiknglaaW.PrintMore
set_option linter.unusedVariables false
set_option linter.unusedSimpArgs false

theorem size24 : (Try.prog.info? 24).map (·.size) = some 32 := by kernel_rfl
theorem load32_at {ops : Array Oper} {rest : List Oper} {o : Oper} {a : Act} {Q : Exit → Act → World → Prop} (hgd : o.guard = none) (p : Operand) (ho : o.op = .load 24 p) {w : World} {B : Nat} {Z : Array Value}
    (hp : a.eval p = .pointer (some ⟨B, 0, none⟩)) (hb : w.heap[B]? = some (.cells Z 24 (0, 0))) (hZ : Z.size = 32) (hk : wpList Try.prog ops Q rest (a.put o.dst (.agg Z)) w) : wpList Try.prog ops Q (o :: rest) a w := by
  have hr : (Instr.loadAt 24 (.pointer (some ⟨B, 0, none⟩))).run Try.prog w = .ok (.agg Z) w := by
    simp only [Instr.loadAt, Instr.sureAddr, Sem.run_bind, Sem.run_pure, Result.andThen]
    exact run_loadVar_row w B 24 24 Z (0, 0) _ hb Try.underlying24 rfl (by rw [hZ]; exact size24)
  refine wpList_plain hgd fun K hK => ?_
  unfold Oper.wp execOp
  simp only [ho, Sem.run_bind, Sem.run_pure, Result.andThen_ok, hp, hr]
  exact hK _ _ hk
theorem store32_at {ops : Array Oper} {rest : List Oper} {o : Oper} {a : Act} {Q : Exit → Act → World → Prop} (hgd : o.guard = none) (p q : Operand) (ho : o.op = .store 24 p q) {w : World} {B : Nat} {Y Z : Array Value}
    (hp : a.eval p = .pointer (some ⟨B, 0, none⟩)) (hq : a.eval q = .agg Z) (hb : w.heap[B]? = some (.cells Y 24 (0, 0))) (hY : Y.size = 32) (hZ : Z.size = 32) (h1 : Z.all (·.oneCell') = true) (hk : wpList Try.prog ops Q rest (a.put o.dst undef) (w.setRow B Z)) : wpList Try.prog ops Q (o :: rest) a w := by
  have hr : (Instr.storeAt 24 (.pointer (some ⟨B, 0, none⟩)) (.agg Z)).run Try.prog w = .ok () (w.setRow B Z) := by
    simp only [Instr.storeAt, Instr.sureAddr, Sem.run_bind, Sem.run_pure, Result.andThen]
    exact run_storeVar_row w B 24 24 Y Z hb (by rw [hZ]; exact size24) (by rw [hY, hZ]) h1
  refine wpList_plain hgd fun K hK => ?_
  unfold Oper.wp execOp
  simp only [ho, Sem.run_bind, Sem.run_pure, Result.andThen_ok, hp, hq, hr]
  exact hK _ _ hk

end Go.Proofs.Ytocnkfepiknglaa.PAll
namespace Go.Proofs.Ytocnkfepiknglaa.PAll
open Go.RowKit Go.Proofs.YtocnkfepiknglaaW.PrintWords Go.Proofs.YtocnkfepiknglaaW.PrintLast Go.Proofs.YtocnkfepiknglaaW.PrintMore
set_option linter.unusedVariables false
set_option linter.unusedSimpArgs false

def arr32 (xs : List Int) : Array Value := (xs.map (Value.int .u8)).toArray
theorem arr32_size (xs : List Int) (h : xs.length = 32) : (arr32 xs).size = 32 := by simp [arr32, h]
theorem arr32_one (xs : List Int) : (arr32 xs).all (·.oneCell') = true := by
  rw [Array.all_eq_true_iff_forall_mem]
  intro v hv
  simp only [arr32, List.mem_toArray, List.mem_map] at hv
  obtain ⟨x, _, rfl⟩ := hv
  rfl
def zeros32 : List Int := List.replicate 32 0
theorem setRow_heap {w : World} {B : Nat} {Y Z : Array Value} {t : TypeId} (h : w.heap[B]? = some (.cells Y t (0, 0))) : (w.setRow B Z).heap[B]? = some (.cells Z t (0, 0)) := by
  simp only [World.setRow, Array.getElem?_modify, if_pos rfl, h]
  rfl
theorem setRow_far {w : World} {B k : Nat} {Z : Array Value} (h : k ≠ B) : (w.setRow B Z).heap[k]? = w.heap[k]? := by
  simp only [World.setRow, Array.getElem?_modify, if_neg (fun e => h (Eq.symm e))]


/-- Byte j of words. -/
def outB (h : List Int) (j : Nat) : Int := rd h ((j / 4 : Nat) : Int) / 2 ^ (24 - 8 * (j % 4)) % 256
/-- So many bytes of the array. -/
def outs (h : List Int) : Nat → List Int
  | 0 => zeros32
  | i + 1 => (outs h i).set i (outB h i)
theorem outs_length (h : List Int) : ∀ i, (outs h i).length = 32
  | 0 => rfl
  | i + 1 => by rw [outs, List.length_set]; exact outs_length h i
theorem arr32_set (xs : List Int) (i : Nat) (y : Int) : (arr32 xs).setIfInBounds i (.int .u8 y) = arr32 (xs.set i y) := by
  unfold arr32
  rw [List.setIfInBounds_toArray, List.map_set]
theorem arr32_cell {w : World} {B : Nat} {xs : List Int} (h : w.heap[B]? = some (.cells (arr32 xs) 24 (0, 0))) (hl : xs.length = 32) (i : Nat) (hi : i < 32) : w.cell? ⟨B, i, none⟩ = some (.int .u8 (rd xs i)) := by
  rw [blk_cell h i]
  unfold arr32 rd
  rw [List.getElem?_toArray, List.getElem?_map, Int.toNat_natCast, List.getD_eq_getElem?_getD, List.getElem?_eq_getElem (by omega)]
  rfl
theorem outs_next {w : World} {B : Nat} {h : List Int} {i : Nat} (hb : w.heap[B]? = some (.cells (arr32 (outs h i)) 24 (0, 0))) : (w.setCell ⟨B, i, none⟩ (.int .u8 (outB h i))).heap[B]? = some (.cells (arr32 (outs h (i + 1))) 24 (0, 0)) := by
  have := blk_set hb i (.int .u8 (outB h i))
  rw [arr32_set] at this
  exact this

end Go.Proofs.Ytocnkfepiknglaa.PAll
