/- An act of the statements of sess, as it reads. -/
import Derived.Test.YtphbpcmncelkhaaBook14
import Derived.WalkKit
import Derived.ProofKit
import Derived.OpenShut
import Derived.Below
namespace Go.Proofs.Ytphbpcmncelkhaa.Sess
open Go.ChangeShapes Go.WideShapes Go.ChangeAt Go.RowKit
set_option linter.unusedVariables false
set_option linter.unusedSimpArgs false

theorem list8 {α : Type} {l : List α} (h : l.length = 8) : ∃ c0 c1 c2 c3 c4 c5 c6 c7, l = [c0, c1, c2, c3, c4, c5, c6, c7] := by
  match l, h with
  | [c0, c1, c2, c3, c4, c5, c6, c7], _ => exact ⟨c0, c1, c2, c3, c4, c5, c6, c7, rfl⟩
theorem wf_u8 {n : Int} (h : (Lit.int .u8 n).wf = true) : 0 ≤ n := by
  have h2 : IntKind.u8.min ≤ n := by
    simp [Lit.wf] at h
    exact h.1
  exact h2

theorem wf_u8_le {n : Int} (h : (Lit.int .u8 n).wf = true) : n ≤ 255 := by
  have h2 : n ≤ IntKind.u8.max := by
    simp [Lit.wf] at h
    exact h.2
  exact h2

theorem act_open {H : Type} {enc : TypeId × Value → H} {w : World} {base : Nat} {spare : Nat → Bool} {held : Bool} {fuel : Nat} {cs : List Value} {x : DataW H × List MemPlace} (h : DataW.trod enc Try.prog w base spare held fuel 47 cs = some x) :
    ∃ (kd u d z h : Int) (raw reg : Bool) (nw : Int), cs = [.int .u8 kd, .int .u8 u, .int .u8 d, .int .u8 z, .int .u64 h, .bool raw, .bool reg, .int .u64 nw] ∧ 0 ≤ u ∧ 0 ≤ z := by
  obtain ⟨xs, n, _, rfl, hl, hlen, hf⟩ := DataW.trod_struct Try.underlying47 h
  have hl8 : cs.length = 8 := hl.trans (by kernel_rfl)
  obtain ⟨c0, c1, c2, c3, c4, c5, c6, c7, rfl⟩ := list8 hl8
  have hx8 : xs.length = 8 := hlen
  obtain ⟨x0, x1, x2, x3, x4, x5, x6, x7, rfl⟩ := list8 hx8
  have z5 : Try.prog.cellsOf 5 = 1 := by kernel_rfl
  have z25 : Try.prog.cellsOf 25 = 1 := by kernel_rfl
  have z4 : Try.prog.cellsOf 4 = 1 := by kernel_rfl
  have g0 := hf 0 _ rfl
  simp only [z5, List.drop_succ_cons, List.drop_zero, List.take_succ_cons, List.take_zero, List.getElem?_cons_succ, List.getElem?_cons_zero] at g0
  obtain ⟨kd, e0, -, wf0⟩ := DataW.trod_int Try.underlying5 g0
  injection e0 with e0
  subst e0
  have g1 := hf 1 _ rfl
  simp only [z5, List.drop_succ_cons, List.drop_zero, List.take_succ_cons, List.take_zero, List.getElem?_cons_succ, List.getElem?_cons_zero] at g1
  obtain ⟨u, e1, -, wf1⟩ := DataW.trod_int Try.underlying5 g1
  injection e1 with e1
  subst e1
  have g2 := hf 2 _ rfl
  simp only [z5, List.drop_succ_cons, List.drop_zero, List.take_succ_cons, List.take_zero, List.getElem?_cons_succ, List.getElem?_cons_zero] at g2
  obtain ⟨d, e2, -, wf2⟩ := DataW.trod_int Try.underlying5 g2
  injection e2 with e2
  subst e2
  have g3 := hf 3 _ rfl
  simp only [z5, List.drop_succ_cons, List.drop_zero, List.take_succ_cons, List.take_zero, List.getElem?_cons_succ, List.getElem?_cons_zero] at g3
  obtain ⟨z, e3, -, wf3⟩ := DataW.trod_int Try.underlying5 g3
  injection e3 with e3
  subst e3
  have g4 := hf 4 _ rfl
  simp only [z25, List.drop_succ_cons, List.drop_zero, List.take_succ_cons, List.take_zero, List.getElem?_cons_succ, List.getElem?_cons_zero] at g4
  obtain ⟨hd, e4, -, wf4⟩ := DataW.trod_int Try.underlying25 g4
  injection e4 with e4
  subst e4
  have g5 := hf 5 _ rfl
  simp only [z4, List.drop_succ_cons, List.drop_zero, List.take_succ_cons, List.take_zero, List.getElem?_cons_succ, List.getElem?_cons_zero] at g5
  obtain ⟨raw, e5, -⟩ := DataW.trod_bool Try.underlying4 g5
  injection e5 with e5
  subst e5
  have g6 := hf 6 _ rfl
  simp only [z4, List.drop_succ_cons, List.drop_zero, List.take_succ_cons, List.take_zero, List.getElem?_cons_succ, List.getElem?_cons_zero] at g6
  obtain ⟨reg, e6, -⟩ := DataW.trod_bool Try.underlying4 g6
  injection e6 with e6
  subst e6
  have g7 := hf 7 _ rfl
  simp only [z25, List.drop_succ_cons, List.drop_zero, List.take_succ_cons, List.take_zero, List.getElem?_cons_succ, List.getElem?_cons_zero] at g7
  obtain ⟨nw, e7, -, wf7⟩ := DataW.trod_int Try.underlying25 g7
  injection e7 with e7
  subst e7
  exact ⟨kd, u, d, z, hd, raw, reg, nw, rfl, wf_u8 wf1, wf_u8 wf3⟩

theorem act_value {H : Type} {enc : TypeId × Value → H} {W : World} {r : Reach} {b0 base : Nat} {spare : Nat → Bool} {held : Bool} {v : Value} {d : DataW H} {p : List MemPlace} (hv : Value.okWide Try.prog W r b0 47 v) (hd : DataW.Trod enc Try.prog W base spare held 47 v d p) :
    ∃ (kd u d z h : Int) (raw reg : Bool) (nw : Int), v = .agg #[.int .u8 kd, .int .u8 u, .int .u8 d, .int .u8 z, .int .u64 h, .bool raw, .bool reg, .int .u64 nw] ∧ 0 ≤ u ∧ 0 ≤ z := by
  obtain ⟨cs, rfl, hsz⟩ := okWide_struct Try.underlying47 hv
  obtain ⟨fuel, hf⟩ := hd
  obtain ⟨kd, u, d, z, h, raw, reg, nw, e, hu, hz⟩ := act_open hf
  refine ⟨kd, u, d, z, h, raw, reg, nw, ?_, hu, hz⟩
  simp only [Value.cells] at e
  rw [← Array.toArray_toList (xs := cs), e]

end Go.Proofs.Ytphbpcmncelkhaa.Sess
