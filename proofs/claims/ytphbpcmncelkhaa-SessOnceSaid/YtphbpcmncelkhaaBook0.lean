/- Words for the walks over sess.Book and the reference's Book: a book in memory; what a call may turn; small functions (closures, bytes.Equal, slices.Clone, ends). -/
import Derived.Test.YtphbpcmncelkhaaPSessPlaysx0
import Derived.Shelf.SlicesQ.Load
import Derived.Shelf.GgClosure.Gives
import Derived.Deep.DeepMust
import Derived.Outline
set_option linter.unusedVariables false
set_option linter.unusedSimpArgs false
namespace Go.Proofs.Ytphbpcmncelkhaa.Sess
open Go.RowKit Go.Shelf Go.Proofs.YtphbpcmncelkhaaW.PrintWords Go.Proofs.YtphbpcmncelkhaaW.PrintLast Go.Proofs.YtphbpcmncelkhaaW.PrintMore
open Go.Proofs.Ytphbpcmncelkhaa.PSessPlays

/-! ### what a call may turn: the blocks of F -/
structure Ft (F : Nat → Prop) (w w' : World) : Prop where
  os : w'.os = w.os
  tape : w'.tape = w.tape
  output : w'.output = w.output
  size : w.heap.size ≤ w'.heap.size
  block : ∀ k, k < w.heap.size → ¬ F k → w'.heap[k]? = w.heap[k]?
theorem Ft.refl (F : Nat → Prop) (w : World) : Ft F w w := ⟨rfl, rfl, rfl, Nat.le_refl _, fun _ _ _ => rfl⟩
theorem Ft.of_below {w w' : World} (h : Below w.heap.size w w') (F : Nat → Prop) : Ft F w w' := ⟨h.os, h.tape, h.output, h.size, fun k hk _ => h.block k hk⟩
theorem Ft.below {F : Nat → Prop} {B : Nat} {w0 w w' : World} (h : Ft F w w') (hb : Below B w0 w) (hB : B ≤ w.heap.size) (hF : ∀ k, F k → B ≤ k) : Below B w0 w' :=
  hb.trans ⟨h.os, h.tape, h.output, h.size, fun k hk => h.block k (by omega) (fun hf => by have := hF k hf; omega)⟩
theorem Ft.mono {F F' : Nat → Prop} {w w' : World} (h : Ft F w w') (hF : ∀ k, F k → F' k) : Ft F' w w' := ⟨h.os, h.tape, h.output, h.size, fun k hk hn => h.block k hk (fun hf => hn (hF k hf))⟩
theorem Ft.trans {F F2 : Nat → Prop} {w w1 w2 : World} (h : Ft F w w1) (k : Ft F2 w1 w2) (hF : ∀ i, F2 i → F i ∨ w.heap.size ≤ i) : Ft F w w2 :=
  ⟨k.os.trans h.os, k.tape.trans h.tape, k.output.trans h.output, Nat.le_trans h.size k.size, fun i hi hn => (k.block i (Nat.lt_of_lt_of_le hi h.size) (fun hf => by rcases hF i hf with a | a; exact hn a; omega)).trans (h.block i hi hn)⟩
theorem Ft.alloc {F : Nat → Prop} {w w1 : World} (h : Ft F w w1) (o : Obj) : Ft F w (w1.alloc o) := h.trans (Ft.of_below (below_alloc (Below.refl _ _) o) (fun _ => False)) (fun _ hf => hf.elim)
theorem Ft.drewN {F : Nat → Prop} {w w1 : World} (h : Ft F w w1) (n : Nat) : Ft F w (w1.drewN n) := ⟨h.os, h.tape, h.output, h.size, h.block⟩
theorem Ft.drew {F : Nat → Prop} {w w1 : World} (h : Ft F w w1) : Ft F w w1.drew := ⟨h.os, h.tape, h.output, h.size, h.block⟩
theorem Ft.setCell {F : Nat → Prop} {w w1 : World} (h : Ft F w w1) {p : Addr} (hp : F p.block ∨ w.heap.size ≤ p.block) (u : Value) : Ft F w (w1.setCell p u) :=
  ⟨h.os, h.tape, h.output, by simpa [World.setCell] using h.size, fun k hk hn => (Below.heap_setCell w1 p u k (fun e => by subst e; rcases hp with a | a; exact hn a; omega)).trans (h.block k hk hn)⟩
theorem Ft.kept {F : Nat → Prop} {w w' : World} (h : Ft F w w') : Kept w w' F := ⟨h.size, h.block⟩
theorem Ft.blk {F : Nat → Prop} {w w' : World} (h : Ft F w w') {g : Nat} {o : Obj} (hb : w.heap[g]? = some o) (hn : ¬ F g) : w'.heap[g]? = some o := blk_kept hb h.kept hn

/-- A book (type T: 58 the code's, 45 the reference's) in block g; F: its blocks. -/
def BookAt (w : World) (base : Nat) (F : Nat → Prop) (g T : Nat) (room life last : Int) (l : List S34) : Prop :=
  ∃ v, w.heap[g]? = some (.cells #[.int .i64 room, .int .u64 life, .int .u64 last, v] T (0, 0)) ∧ F g ∧ base ≤ g ∧ k34.R 34 w base (fun k => F k ∧ k ≠ g) v l

/-! ### small functions -/
theorem cell1 {w : World} {B t : Nat} {v : Value} (h : w.heap[B]? = some (.cells #[v] t (0, 0))) : w.cell? ⟨B, 0, none⟩ = some v := by
  have := blk_cell h 0
  simpa using this

/-- The closure of sweep: is a session over? -/
theorem sweep1 (h e now : Int) (u d r a : Value) (B : Nat) (W : World) (hB : W.heap[B]? = some (.cells #[.int .u64 now] 25 (0, 0))) :
    Calls Try.prog 28 #[.agg #[.int .u64 h, u, d, .int .u64 e, r, a], .pointer (some ⟨B, 0, none⟩)] W fun en w' => en = .returned (.bool (decide (e ≤ now))) ∧ w' = W.alloc (.cells #[.int .u64 h, u, d, .int .u64 e, r, a] 34) := by
  have hc := cell1 hB
  have hlt := blk_lt hB
  have hne : B ≠ W.heap.size := by omega
  go_enter Try.func28, Try.ntmps28
  go_wp2
  go_ret
  exact ⟨rfl, rfl⟩

/-- The closure of Take: is it that handle? -/
theorem take1 (h e handle : Int) (u d r a : Value) (B : Nat) (W : World) (hB : W.heap[B]? = some (.cells #[.int .u64 handle] 25 (0, 0))) :
    Calls Try.prog 25 #[.agg #[.int .u64 h, u, d, .int .u64 e, r, a], .pointer (some ⟨B, 0, none⟩)] W fun en w' => en = .returned (.bool (h == handle)) ∧ w' = W.alloc (.cells #[.int .u64 h, u, d, .int .u64 e, r, a] 34) := by
  have hc := cell1 hB
  have hlt := blk_lt hB
  have hne : B ≠ W.heap.size := by omega
  go_enter Try.func25, Try.ntmps25
  go_wp2
  go_ret
  exact ⟨rfl, rfl⟩

/-- bytes.Equal. -/
theorem equal_calls (A1 A2 : Option Addr) (c1 c2 : Nat) (x y : List Int) (W : World) (h1 : Kd.C (Kd.int .u8) W A1 x.length x) (h2 : Kd.C (Kd.int .u8) W A2 y.length y) :
    Calls Try.prog 21 #[.slice A1 x.length c1, .slice A2 y.length c2] W fun en w' => en = .returned (.bool ((strOfNums x).toList == (strOfNums y).toList)) ∧ w' = W := by
  have hcv1 := Kd.C_string (P := Try.prog) (A := A1) (c := c1) Try.underlying22 Try.underlying5 Try.underlying9 h1
  have hcv2 := Kd.C_string (P := Try.prog) (A := A2) (c := c2) Try.underlying22 Try.underlying5 Try.underlying9 h2
  go_enter Try.func21, Try.ntmps21
  go_wp2
  go_ret
  exact ⟨rfl, rfl⟩

/-- The closure of Begin: has a session that draw? s: where the new session lies. -/
theorem begin1 (h e : Int) (u r a : Value) (A1 : Option Addr) (c1 : Nat) (x : List Int) (A2 : Option Addr) (c2 : Nat) (y : List Int) (h0 u0 e0 r0 a0 : Value) (B : Nat) (W : World)
    (hB : W.heap[B]? = some (.cells #[h0, u0, .slice A2 y.length c2, e0, r0, a0] 34 (0, 0))) (h1 : Kd.C (Kd.int .u8) W A1 x.length x) (h2 : Kd.C (Kd.int .u8) W A2 y.length y) :
    Calls Try.prog 20 #[.agg #[.int .u64 h, u, .slice A1 x.length c1, .int .u64 e, r, a], .pointer (some ⟨B, 0, none⟩)] W fun en w' => en = .returned (.bool ((strOfNums x).toList == (strOfNums y).toList)) ∧ w' = W.alloc (.cells #[.int .u64 h, u, .slice A1 x.length c1, .int .u64 e, r, a] 34) := by
  have hc : W.cell? ⟨B, 2, none⟩ = some (.slice A2 y.length c2) := (blk_cell hB 2).trans rfl
  have hlt := blk_lt hB
  have hne : B ≠ W.heap.size := by omega
  have H1 := Aside0.mk (Kd.C_alloc h1 (.cells #[.int .u64 h, u, .slice A1 x.length c1, .int .u64 e, r, a] 34))
  have H2 := Aside0.mk (Kd.C_alloc h2 (.cells #[.int .u64 h, u, .slice A1 x.length c1, .int .u64 e, r, a] 34))
  clear h1 h2 hB
  go_enter Try.func20, Try.ntmps20
  go_wp2_with ((with_reducible refine gate_callee (f := 21) rfl ?_); refine goesL_ (some 8) rfl rfl Try.func21 (by kernel_rfl) rfl #[.slice A1 x.length c1, .slice A2 y.length c2] rfl (by (try simp only [List.map_toArray, List.map_cons, List.map_nil]); first | done | rfl) ?_; (with_reducible refine (equal_calls _ _ _ _ x y _ H1.out H2.out).mono ?_); rintro e w' ⟨rfl, rfl⟩; refine ⟨_, rfl, ?_⟩)
  go_ret
  exact ⟨rfl, rfl⟩

/-! ### slices.IndexFunc, ContainsFunc -/
/-- The first place below n at which q holds; -1. -/
def idxq (q : Nat → Bool) (n : Nat) : Int := match (List.range n).find? q with | some j => (j : Int) | none => -1
theorem idxq_hit {q : Nat → Bool} {n k : Nat} (hk : k < n) (hq : q k = true) (hno : ∀ j, j < k → q j = false) : idxq q n = k := by
  unfold idxq
  have : (List.range n).find? q = some k := by
    rw [List.find?_range_eq_some]
    exact ⟨hq, by simpa using hk, fun j hj => by simp [hno j hj]⟩
  rw [this]
theorem idxq_miss {q : Nat → Bool} {n : Nat} (hno : ∀ j, j < n → q j = false) : idxq q n = -1 := by
  unfold idxq
  have : (List.range n).find? q = none := by
    rw [List.find?_eq_none]
    intro j hj
    rw [hno j (by simpa using hj)]; simp
  rw [this]

/-- A session's six cells. -/
structure Ch where
  v0 : Value
  v1 : Value
  v2 : Value
  v3 : Value
  v4 : Value
  v5 : Value
def zCh : Ch := ⟨.int .u64 0, .string ⟨#[]⟩, .slice none 0 0, .int .u64 0, .bool false, .bool false⟩
def Ch.list (y : Ch) : List Value := [y.v0, y.v1, y.v2, y.v3, y.v4, y.v5]
/-- The chunks D lie at block g from its head on. -/
def CellsAt (w : World) (g : Nat) (D : List Ch) : Prop := ∀ j, j < D.length → w.cell? ⟨g, j * 6, none⟩ = some (D.getD j zCh).v0 ∧ w.cell? ⟨g, j * 6 + 1, none⟩ = some (D.getD j zCh).v1 ∧ w.cell? ⟨g, j * 6 + 2, none⟩ = some (D.getD j zCh).v2 ∧
  w.cell? ⟨g, j * 6 + 3, none⟩ = some (D.getD j zCh).v3 ∧ w.cell? ⟨g, j * 6 + 4, none⟩ = some (D.getD j zCh).v4 ∧ w.cell? ⟨g, j * 6 + 5, none⟩ = some (D.getD j zCh).v5
theorem CellsAt.blk {w w' : World} {g : Nat} {D : List Ch} (h : CellsAt w g D) (hb : w'.heap[g]? = w.heap[g]?) : CellsAt w' g D := by
  have e : ∀ o, w'.cell? ⟨g, o, none⟩ = w.cell? ⟨g, o, none⟩ := fun o => World.cell?_of_block (w := w) hb
  intro j hj
  obtain ⟨h0, h1, h2, h3, h4, h5⟩ := h j hj
  exact ⟨(e _).trans h0, (e _).trans h1, (e _).trans h2, (e _).trans h3, (e _).trans h4, (e _).trans h5⟩

set_option maxHeartbeats 2000000 in
theorem indexFunc_some (gf : Nat) (lb : Array Value) (eg : ∀ args w, (callFunc gf args).run Try.prog w = .ok (.enter gf args) w) (q : Nat → Bool) (g : Nat) (c : Nat) (D : List Ch) (w : World)
    (hn : D.length ≤ 140737488355328) (hg : g < w.heap.size) (hA : CellsAt w g D)
    (hp : ∀ (W : World) (j : Nat), j < D.length → Below w.heap.size w W → Calls Try.prog gf (#[.agg #[(D.getD j zCh).v0, (D.getD j zCh).v1, (D.getD j zCh).v2, (D.getD j zCh).v3, (D.getD j zCh).v4, (D.getD j zCh).v5]] ++ lb) W fun e w' => e = .returned (.bool (q j)) ∧ Below w.heap.size w w') :
    Calls Try.prog 24 #[.slice (some ⟨g, 0, none⟩) D.length c, .func (.func gf) #[] lb] w fun e w' => e = .returned (.int .i64 (idxq q D.length)) ∧ Below w.heap.size w w' := by
  have hrow : ∀ (W : World), Below w.heap.size w W → CellsAt W g D := fun W hW => hA.blk (hW.block g hg)
  clear hA
  unfold CellsAt at hrow
  obtain ⟨n, hnn⟩ : ∃ n, n = D.length := ⟨_, rfl⟩
  rw [← hnn] at hn hrow hp ⊢
  clear hnn
  go_enter Try.func24, Try.ntmps24
  go_wp2
  go_loopg [5, 8] n (fun gg _ s8 wr => ∃ kk : Nat, kk ≤ n ∧ n - kk ≤ gg ∧ s8 = .int .i64 kk ∧ Aside0 (Below w.heap.size w wr) ∧ Aside0 (∀ j, j < kk → q j = false))
  case atStart => exact ⟨0, Nat.zero_le _, by omega, rfl, ⟨Below.refl _ w⟩, ⟨fun j hj => absurd hj (Nat.not_lt_zero _)⟩⟩
  case round =>
    obtain ⟨kk, hkk, hgg, rfl, BW, A⟩ := hrel
    by_cases hlt : kk < n
    · have hltz : (kk : Int) < (n : Int) := by omega
      obtain ⟨l0, l1, l2, l3, l4, l5⟩ := hrow wr BW.out kk hlt
      have hcall := hp wr kk hlt BW.out
      clear hrow hp
      generalize D.getD kk zCh = y at l0 l1 l2 l3 l4 l5 hcall
      cases hq : q kk with
      | true =>
        rw [hq] at hcall
        go_wp2_with (go_at_fn gf; refine hcall.mono ?_; rintro e w' ⟨rfl, hb'⟩)
        go_ret
        refine ⟨?_, hb'⟩
        rw [idxq_hit hlt hq A.out]
        rfl
      | false =>
        rw [hq] at hcall
        go_wp2_with (go_at_fn gf; refine hcall.mono ?_; rintro e w' ⟨rfl, hb'⟩)
        go_roundg (n - (kk + 1))
        case measure => omega
        case rel =>
          refine ⟨kk + 1, by omega, by omega, by go_num, ⟨hb'⟩, ⟨fun j hj => ?_⟩⟩
          by_cases e : j = kk
          · subst e
            exact hq
          · exact A.out j (by omega)
    · have hltz : ¬ (kk : Int) < (n : Int) := by omega
      have : kk = n := by omega
      subst this
      go_wp2
      go_ret
      refine ⟨?_, BW.out⟩
      rw [idxq_miss A.out]
      rfl

set_option maxHeartbeats 2000000 in
theorem indexFunc_none (gf : Nat) (lb : Array Value) (A : Option Addr) (c : Nat) (w : World) :
    Calls Try.prog 24 #[.slice A 0 c, .func (.func gf) #[] lb] w fun e w' => e = .returned (.int .i64 (-1)) ∧ Below w.heap.size w w' := by
  go_enter Try.func24, Try.ntmps24
  go_wp2
  go_loopg [5, 8] 1 (fun gg _ s8 wr => gg = 1 ∧ s8 = .int .i64 0 ∧ Aside0 (Below w.heap.size w wr))
  case atStart => exact ⟨rfl, rfl, ⟨Below.refl _ w⟩⟩
  case round =>
    obtain ⟨rfl, rfl, BW⟩ := hrel
    go_wp2
    go_ret
    exact ⟨rfl, BW.out⟩

end Go.Proofs.Ytphbpcmncelkhaa.Sess
