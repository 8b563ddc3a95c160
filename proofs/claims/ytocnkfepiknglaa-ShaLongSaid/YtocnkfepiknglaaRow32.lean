/- An array of 32 bytes by value: loaded and stored whole. -/
import Derived.Test.YtocnkfepiknglaaPAllx0
import Derived.Laws.Rows
import Derived.Laws.Tables
namespace Go.Proofs.Ytocnkfepiknglaa.PAll
open Go.RowKit Go.Proofs.YtocnkfepiknglaaW.PrintWords Go.Proofs.YtocnkfepiknglaaW.PrintLast Go.Proofs.YtocnkfepiknglaaW.PrintMore
set_option linter.unusedVariables false
set_option linter.unusedSimpArgs false

theorem size24 : (Try.prog.info? 24).map (·.size) = some 32 := by kernel_rfl
theorem load32_at {ops : Array Oper} {rest : List Oper} {o : Oper} {a : Act} {Q : Exit → Act → World → Prop} (hgd : o.guard = none) (p : Operand) (ho : o.op = .load 24 p) {w : World} {B : Nat} {Z : Array Value}
    (hp : a.eval p = .pointer (some ⟨B, 0, none⟩)) (hb : w.heap[B]? = some (.cells Z 24 (0, 0))) (hZ : Z.size = 32) (hk : wpList Try.prog ops Q rest (a.put o.dst (.agg Z)) w) : wpList Try.prog ops Q (o :: rest) a w := by
  have hr : (Instr.loadAt 24 (.pointer (some ⟨B, 0, none⟩))).run Try.prog w = .ok (.agg Z) w := by
    simp only [Instr.loadAt, Instr.sureAddr, Sem.run_bind, Sem.run_pure, Result.andThen]
    exact run_loadVar_row w B 24 24 Z (0, 0) _ hb Try.underlying24 rfl (by rw [hZ]; exact size24)
  refine wpList_plain hgd fun K hK => ?_
  unfold Oper.wp execOp
  simp only [ho, Sem.run_bind, Sem.run_pure, Result.andThen_ok, hp, hr]
  exact hK _ _ hk
theorem store32_at {ops : Array Oper} {rest : List Oper} {o : Oper} {a : Act} {Q : Exit → Act → World → Prop} (hgd : o.guard = none) (p q : Operand) (ho : o.op = .store 24 p q) {w : World} {B : Nat} {Y Z : Array Value}
    (hp : a.eval p = .pointer (some ⟨B, 0, none⟩)) (hq : a.eval q = .agg Z) (hb : w.heap[B]? = some (.cells Y 24 (0, 0))) (hY : Y.size = 32) (hZ : Z.size = 32) (h1 : Z.all (·.oneCell') = true) (hk : wpList Try.prog ops Q rest (a.put o.dst undef) (w.setRow B Z)) : wpList Try.prog ops Q (o :: rest) a w := by
  have hr : (Instr.storeAt 24 (.pointer (some ⟨B, 0, none⟩)) (.agg Z)).run Try.prog w = .ok () (w.setRow B Z) := by
    simp only [Instr.storeAt, Instr.sureAddr, Sem.run_bind, Sem.run_pure, Result.andThen]
    exact run_storeVar_row w B 24 24 Y Z hb (by rw [hZ]; exact size24) (by rw [hY, hZ]) h1
  refine wpList_plain hgd fun K hK => ?_
  unfold Oper.wp execOp
  simp only [ho, Sem.run_bind, Sem.run_pure, Result.andThen_ok, hp, hq, hr]
  exact hK _ _ hk

end Go.Proofs.Ytocnkfepiknglaa.PAll
