/- The iterators over a slice of pieces: slices.Values's, the law's own. -/
import Derived.Test.YtocnkfepiknglaaRgF
import Derived.Test.YtocnkfepiknglaaRowsBB
namespace Go.Proofs.Ytocnkfepiknglaa.PAll
open Go.RowKit Go.Shelf Go.Proofs.YtocnkfepiknglaaW.PrintWords
set_option linter.unusedVariables false
set_option linter.unusedSimpArgs false
attribute [local go_sem] Oper.semAt_some

/-- Bytes that lay in w. -/
structure Piece (w : World) where
  A : Option Addr
  c : Nat
  b : List Int
  hC : Kd.C (Kd.int .u8) w A b.length b
  hB : ByteL b
  hl : b.length ≤ 20000
def Piece.enc {w : World} (x : Piece w) : Value := .slice x.A x.b.length x.c
/-- A slice of pieces, in blocks below B. -/
def ListAt (w0 : World) (B : Nat) (W : World) (oa : Option Addr) (zs : List (Piece w0)) : Prop :=
  ∀ r x, zs[r]? = some x → ∃ a, oa = some a ∧ a.block < B ∧ W.cell? (a.add r) = some x.enc
theorem add_block (a : Addr) (r : Nat) : (a.add r).block = a.block := by unfold Addr.add; split <;> rfl
theorem ListAt.below {w0 : World} {B : Nat} {A W : World} {oa : Option Addr} {zs : List (Piece w0)} (h : ListAt w0 B A oa zs) (hb : Below B A W) : ListAt w0 B W oa zs := fun r x hx => by
  obtain ⟨a, h1, h2, h3⟩ := h r x hx
  exact ⟨a, h1, h2, (hb.cell (p := a.add r) (by rw [add_block]; exact h2)).trans h3⟩

set_option maxRecDepth 100000 in
set_option maxHeartbeats 4000000 in
theorem seq22 (n : Nat) (hn : 1 ≤ n) (l Bs B c : Nat) (w0 : World) (oa : Option Addr) (zs : List (Piece w0)) (hlen : zs.length ≤ 140737488355328) (J : List (Piece w0) → World → Prop)
    (hY : ∀ pre x W1, J pre W1 → pre.length < zs.length → YieldAt Fence.wide (n - 1) Try.prog l #[Piece.enc x] W1 fun e W' => e = .returned (.bool true) ∧ J (pre ++ [x]) W' ∧ Below B W1 W')
    (W : World) (hBs : W.cell? ⟨Bs, 0, none⟩ = some (.slice oa zs.length c)) (hL : ListAt w0 B W oa zs) (h0 : J [] W) :
    CallsIn Fence.wide n Try.prog 22 #[.func (.yield l) #[] #[], .pointer (some ⟨Bs, 0, none⟩)] W fun e W' => (∃ v, e = .returned v) ∧ J zs W' := by
  refine callsIn_of_wp Try.func22 rfl trivial ?_ rfl
  simp only [Try.ntmps22, List.size_toArray, List.length_cons, List.length_nil, Nat.reduceAdd, Nat.reduceSub, Array.replicate_succ, Array.replicate_zero, List.push_toArray, List.append_toArray, List.nil_append, List.cons_append]
  gi_wp2
  gi_loopw [7] (fun i wr => ∃ k : Nat, k ≤ zs.length ∧ i = .int .i64 k ∧ J (zs.take k) wr ∧ ListAt w0 B wr oa zs) (fun i _ => zs.length - (intOf i).toNat)
  case atStart => exact ⟨0, Nat.zero_le _, rfl, h0, hL⟩
  case round =>
    obtain ⟨k, hk, rfl, hJ, hL⟩ := hrel
    by_cases hlt : k < zs.length
    · obtain ⟨x, hx⟩ : ∃ x, zs[k]? = some x := ⟨_, List.getElem?_eq_getElem hlt⟩
      obtain ⟨a, rfl, hab, hcell⟩ := hL k x hx
      unfold Piece.enc at hcell
      obtain ⟨fn, tmps, assign, body, hy, hR⟩ := hY _ x wr hJ (by rw [List.length_take]; omega)
      unfold Piece.enc at hy
      have hkz : (k : Int) < (zs.length : Int) := by omega
      gi_wp2
      refine hR.mono ?_
      rintro e W3 ⟨rfl, hJ3, hk3⟩
      gi_wp2
      go_roundw
      case rel =>
        refine ⟨k + 1, by omega, by simp, ?_, hL.below hk3⟩
        rw [List.take_add_one, hx]
        exact hJ3
      case measure => simp [intOf]; omega
    · obtain rfl : k = zs.length := by omega
      rw [List.take_length] at hJ
      gi_wp2
      go_end0
      exact ⟨⟨_, rfl⟩, hJ⟩

set_option maxRecDepth 100000 in
set_option maxHeartbeats 4000000 in
theorem seq14 (n : Nat) (hn : 1 ≤ n) (l Cb Bs B c : Nat) (w0 : World) (oa : Option Addr) (zs : List (Piece w0)) (hlen : zs.length ≤ 140737488355328) (J : List (Piece w0) → World → Prop)
    (hY : ∀ pre x W1, J pre W1 → pre.length < zs.length → YieldAt Fence.wide (n - 1) Try.prog l #[Piece.enc x] W1 fun e W' => e = .returned (.bool true) ∧ J (pre ++ [x]) W' ∧ Below B W1 W')
    (W : World) (hne : Cb ≠ Bs) (hCb : W.cell? ⟨Cb, 0, none⟩ = some (.int .i64 0)) (hCf : W.frozen? ⟨Cb, 0, none⟩ = false) (hBs : (W.setCell ⟨Cb, 0, none⟩ (.int .i64 1)).cell? ⟨Bs, 0, none⟩ = some (.slice oa zs.length c)) (hL : ListAt w0 B (W.setCell ⟨Cb, 0, none⟩ (.int .i64 1)) oa zs) (h0 : J [] (W.setCell ⟨Cb, 0, none⟩ (.int .i64 1))) :
    CallsIn Fence.wide n Try.prog 14 #[.func (.yield l) #[] #[], .pointer (some ⟨Cb, 0, none⟩), .pointer (some ⟨Bs, 0, none⟩)] W fun e W' => (∃ v, e = .returned v) ∧ J zs W' := by
  obtain ⟨V, hV⟩ : ∃ V, V = W.setCell ⟨Cb, 0, none⟩ (.int .i64 1) := ⟨_, rfl⟩
  rw [← hV] at hBs hL h0
  refine callsIn_of_wp Try.func14 rfl trivial ?_ rfl
  simp only [Try.ntmps14, List.size_toArray, List.length_cons, List.length_nil, Nat.reduceAdd, Nat.reduceSub, Array.replicate_succ, Array.replicate_zero, List.push_toArray, List.append_toArray, List.nil_append, List.cons_append]
  have hBs0 : W.cell? ⟨Bs, 0, none⟩ = some (.slice oa zs.length c) := by
    rw [hV] at hBs
    exact (World.cell?_of_block (a := ⟨Bs, 0, none⟩) (Below.heap_setCell W _ _ Bs (fun e => hne e.symm))).symm.trans hBs
  gi_wp2
  gi_loopw [10] (fun i wr => ∃ k : Nat, k ≤ zs.length ∧ i = .int .i64 k ∧ J (zs.take k) wr ∧ ListAt w0 B wr oa zs) (fun i _ => zs.length - (intOf i).toNat)
  case atStart => exact ⟨0, Nat.zero_le _, rfl, by rw [← hV]; exact h0, by rw [← hV]; exact hL⟩
  case round =>
    obtain ⟨k, hk, rfl, hJ, hL⟩ := hrel
    by_cases hlt : k < zs.length
    · obtain ⟨x, hx⟩ : ∃ x, zs[k]? = some x := ⟨_, List.getElem?_eq_getElem hlt⟩
      obtain ⟨a, rfl, hab, hcell⟩ := hL k x hx
      unfold Piece.enc at hcell
      obtain ⟨fn, tmps, assign, body, hy, hR⟩ := hY _ x wr hJ (by rw [List.length_take]; omega)
      unfold Piece.enc at hy
      have hkz : (k : Int) < (zs.length : Int) := by omega
      gi_wp2
      refine hR.mono ?_
      rintro e W3 ⟨rfl, hJ3, hk3⟩
      gi_wp2
      go_roundw
      case rel =>
        refine ⟨k + 1, by omega, by simp, ?_, hL.below hk3⟩
        rw [List.take_add_one, hx]
        exact hJ3
      case measure => simp [intOf]; omega
    · obtain rfl : k = zs.length := by omega
      rw [List.take_length] at hJ
      gi_wp2
      go_end0
      exact ⟨⟨_, rfl⟩, hJ⟩
set_option maxHeartbeats 4000000 in
theorem values_calls (oa : Option Addr) (n c : Nat) (w : World) :
    Calls Try.prog 16 #[.slice oa n c] w fun e w' => e = .returned (.func (.func 22) #[] #[.pointer (some ⟨w.heap.size, 0, none⟩)]) ∧ w' = w.alloc (.cells #[.slice oa n c] 27) := by
  go_enter Try.func16, Try.ntmps16
  go_wp2
  go_ret
  exact ⟨rfl, rfl⟩
theorem values_seq {n Bs B c : Nat} (hn : 1 ≤ n) {w0 : World} {oa : Option Addr} {zs : List (Piece w0)} (hlen : zs.length ≤ 140737488355328) {w : World} (hBs : w.cell? ⟨Bs, 0, none⟩ = some (.slice oa zs.length c)) (hB : B ≤ w.heap.size) (hL : ListAt w0 B w oa zs) :
    SeqSt Try.prog n 22 #[.pointer (some ⟨Bs, 0, none⟩)] (fun x : Piece w0 => #[x.enc]) (Below B) zs (fun A W => W = A) w := fun l J W hW h0 hY =>
  seq22 n hn l Bs B c w0 oa zs hlen J hY W ((hW.cell (p := ⟨Bs, 0, none⟩) (World.block_lt_of_cell? w _ hBs)).trans hBs) (hL.below (hW.mono hB)) (h0 W rfl)
theorem law_seq {n Cb Bs B c : Nat} (hn : 1 ≤ n) {w0 : World} {oa : Option Addr} {zs : List (Piece w0)} (hlen : zs.length ≤ 140737488355328) {w : World} (hne : Cb ≠ Bs) {ct : TypeId} (hCb : w.heap[Cb]? = some (.cells #[.int .i64 0] ct (0, 0))) (hBs : w.cell? ⟨Bs, 0, none⟩ = some (.slice oa zs.length c)) (hB : B ≤ w.heap.size) (hCB : ∀ (r : Nat) (x : Piece w0), zs[r]? = some x → ∀ a, oa = some a → a.block ≠ Cb) (hL : ListAt w0 B w oa zs) :
    SeqSt Try.prog n 14 #[.pointer (some ⟨Cb, 0, none⟩), .pointer (some ⟨Bs, 0, none⟩)] (fun x : Piece w0 => #[x.enc]) (Below B) zs (fun A W => W = A.setCell ⟨Cb, 0, none⟩ (.int .i64 1)) w := fun l J W hW h0 hY => by
  have hc := (hW.block Cb (blk_lt hCb)).trans hCb
  have hbs := (hW.cell (p := ⟨Bs, 0, none⟩) (World.block_lt_of_cell? w _ hBs)).trans hBs
  have hl := hL.below (hW.mono hB)
  refine seq14 n hn l Cb Bs B c w0 oa zs hlen J hY W hne (blk_cell hc 0) (blk_frozen hc 0) ?_ ?_ (h0 _ rfl)
  · exact (World.cell?_of_block (a := ⟨Bs, 0, none⟩) (Below.heap_setCell W _ _ Bs (fun e => hne e.symm))).trans hbs
  · intro r x hx
    obtain ⟨a, ha, hab, hcell⟩ := hl r x hx
    exact ⟨a, ha, hab, (World.cell?_of_block (a := a.add r) (Below.heap_setCell W _ _ _ (by rw [add_block]; exact hCB r x hx a ha))).trans hcell⟩
end Go.Proofs.Ytocnkfepiknglaa.PAll
