/- slices.DeleteFunc at sweep's closure, slices.Delete, ContainsFunc, Clone, ends. -/
import Derived.Test.YtphbpcmncelkhaaBook0
set_option linter.unusedVariables false
set_option linter.unusedSimpArgs false
namespace Go.Proofs.Ytphbpcmncelkhaa.Sess
open Go.RowKit Go.Shelf Go.Proofs.YtphbpcmncelkhaaW.PrintWords Go.Proofs.YtphbpcmncelkhaaW.PrintLast Go.Proofs.YtphbpcmncelkhaaW.PrintMore
open Go.Proofs.Ytphbpcmncelkhaa.PSessPlays

theorem containsFunc_calls (s f : Value) (r : Int) (w : World) (hI : Calls Try.prog 24 #[s, f] w fun e w' => e = .returned (.int .i64 r) ∧ Below w.heap.size w w') :
    Calls Try.prog 19 #[s, f] w fun e w' => e = .returned (.bool (decide (0 ≤ r))) ∧ Below w.heap.size w w' := by
  go_enter Try.func19, Try.ntmps19
  go_wp2_with (go_at_call 24; refine hI.mono ?_; rintro e w' ⟨rfl, hb⟩)
  go_ret
  exact ⟨rfl, hb⟩

/-- A session's cells by what they hold. -/
structure Cs where
  h : Int
  e : Int
  u : ByteArray
  dA : Option Addr
  dn : Nat
  dc : Nat
  r : Bool
  a : Bool
def zCs : Cs := ⟨0, 0, ⟨#[]⟩, none, 0, 0, false, false⟩
/-- Chunk j of the cells is x. -/
def ChunkIs (cur : Array Value) (j : Nat) (x : Cs) : Prop :=
  cur[j * 6]? = some (.int .u64 x.h) ∧ cur[j * 6 + 1]? = some (.string x.u) ∧ cur[j * 6 + 2]? = some (.slice x.dA x.dn x.dc) ∧ cur[j * 6 + 3]? = some (.int .u64 x.e) ∧ cur[j * 6 + 4]? = some (.bool x.r) ∧ cur[j * 6 + 5]? = some (.bool x.a)
/-- The row of sessions at block g: its first n chunks are f's. -/
def RowF (w : World) (g cap n : Nat) (f : Nat → Cs) : Prop :=
  ∃ cur, w.heap[g]? = some (.cells cur 34 (0, 0)) ∧ cur.size = cap * 6 ∧ n ≤ cap ∧ ∀ j, j < n → ChunkIs cur j (f j)
theorem RowF.cell {w : World} {g cap n : Nat} {f : Nat → Cs} (h : RowF w g cap n f) (j : Nat) (hj : j < n) :
    w.cell? ⟨g, j * 6, none⟩ = some (.int .u64 (f j).h) ∧ w.cell? ⟨g, j * 6 + 1, none⟩ = some (.string (f j).u) ∧ w.cell? ⟨g, j * 6 + 2, none⟩ = some (.slice (f j).dA (f j).dn (f j).dc) ∧
      w.cell? ⟨g, j * 6 + 3, none⟩ = some (.int .u64 (f j).e) ∧ w.cell? ⟨g, j * 6 + 4, none⟩ = some (.bool (f j).r) ∧ w.cell? ⟨g, j * 6 + 5, none⟩ = some (.bool (f j).a) := by
  obtain ⟨cur, hb, _, _, hc⟩ := h
  obtain ⟨c0, c1, c2, c3, c4, c5⟩ := hc j hj
  exact ⟨(blk_cell hb _).trans c0, (blk_cell hb _).trans c1, (blk_cell hb _).trans c2, (blk_cell hb _).trans c3, (blk_cell hb _).trans c4, (blk_cell hb _).trans c5⟩
theorem RowF.frozen {w : World} {g cap n : Nat} {f : Nat → Cs} (h : RowF w g cap n f) (i : Nat) : w.frozen? ⟨g, i, none⟩ = false := by
  obtain ⟨cur, hb, _⟩ := h
  exact blk_frozen hb i
theorem RowF.lt {w : World} {g cap n : Nat} {f : Nat → Cs} (h : RowF w g cap n f) : g < w.heap.size := by
  obtain ⟨cur, hb, _⟩ := h
  exact blk_lt hb
theorem RowF.blk {w w' : World} {g cap n : Nat} {f : Nat → Cs} (h : RowF w g cap n f) (hb : w'.heap[g]? = w.heap[g]?) : RowF w' g cap n f := by
  obtain ⟨cur, h1, h2⟩ := h
  exact ⟨cur, hb.trans h1, h2⟩
theorem RowF.congr {w : World} {g cap n : Nat} {f f' : Nat → Cs} (h : RowF w g cap n f) (hf : ∀ j, j < n → f' j = f j) : RowF w g cap n f' := by
  obtain ⟨cur, h1, h2, h3, h4⟩ := h
  exact ⟨cur, h1, h2, h3, fun j hj => by rw [hf j hj]; exact h4 j hj⟩
theorem RowF.take {w : World} {g cap n m : Nat} {f : Nat → Cs} (h : RowF w g cap n f) (hm : m ≤ n) : RowF w g cap m f := by
  obtain ⟨cur, h1, h2, h3, h4⟩ := h
  exact ⟨cur, h1, h2, Nat.le_trans hm h3, fun j hj => h4 j (by omega)⟩

/-- A session stored into place i. -/
def stored (w : World) (g i : Nat) (x : Cs) : World :=
  (((((w.setCell ⟨g, i * 6, none⟩ (.int .u64 x.h)).setCell ⟨g, i * 6 + 1, none⟩ (.string x.u)).setCell ⟨g, i * 6 + 2, none⟩ (.slice x.dA x.dn x.dc)).setCell ⟨g, i * 6 + 3, none⟩ (.int .u64 x.e)).setCell ⟨g, i * 6 + 4, none⟩ (.bool x.r)).setCell ⟨g, i * 6 + 5, none⟩ (.bool x.a)
theorem RowF.stored {w : World} {g cap n i : Nat} {f : Nat → Cs} (h : RowF w g cap n f) (hi : i < n) (x : Cs) : RowF (stored w g i x) g cap n (fun j => if j = i then x else f j) := by
  obtain ⟨cur, h1, h2, h3, h4⟩ := h
  unfold Sess.stored
  refine ⟨_, blk_set (blk_set (blk_set (blk_set (blk_set (blk_set h1 _ _) _ _) _ _) _ _) _ _) _ _, by simpa using h2, h3, fun j hj => ?_⟩
  obtain ⟨c0, c1, c2, c3, c4, c5⟩ := h4 j hj
  have hsz : i * 6 + 5 < cur.size := by omega
  by_cases e : j = i
  · subst e
    simp only [if_pos]
    unfold ChunkIs
    simp only [Array.getElem?_setIfInBounds, Array.size_setIfInBounds]
    refine ⟨?_, ?_, ?_, ?_, ?_, ?_⟩ <;> (repeat (first | rw [if_pos trivial] | rw [if_neg (by omega)] | rw [if_pos (by omega)]))
  · simp only [if_neg e]
    unfold ChunkIs
    simp only [Array.getElem?_setIfInBounds, Array.size_setIfInBounds]
    refine ⟨?_, ?_, ?_, ?_, ?_, ?_⟩ <;> (repeat (first | rw [if_pos trivial] | rw [if_neg (by omega)] | rw [if_pos (by omega)])) <;> assumption
theorem Ft.stored {F : Nat → Prop} {w w1 : World} (h : Ft F w w1) {g i : Nat} {x : Cs} (hg : F g ∨ w.heap.size ≤ g) : Ft F w (stored w1 g i x) := by
  unfold Sess.stored
  exact (((((h.setCell hg _).setCell hg _).setCell hg _).setCell hg _).setCell hg _).setCell hg _

end Go.Proofs.Ytphbpcmncelkhaa.Sess
