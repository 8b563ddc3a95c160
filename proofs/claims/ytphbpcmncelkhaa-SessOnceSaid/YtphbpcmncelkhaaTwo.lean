/- Two books that hold one and the same list: what SessPlays' walk wants. -/
import Derived.Test.YtphbpcmncelkhaaActs
import Derived.Test.YtphbpcmncelkhaaRoom16
namespace Go.Proofs.Ytphbpcmncelkhaa.Sess
open Go.ChangeShapes Go.WideShapes Go.ChangeAt Go.RowKit Go.Shelf Go.Proofs.YtphbpcmncelkhaaW.PrintWords Go.Proofs.YtphbpcmncelkhaaW.PrintLast Go.Proofs.YtphbpcmncelkhaaW.PrintMore Go.Proofs.Ytphbpcmncelkhaa.PSessPlays
set_option linter.unusedVariables false
set_option linter.unusedSimpArgs false

theorem wf_u64 {n : Int} (h : (Lit.int .u64 n).wf = true) : 0 ≤ n ∧ n ≤ 18446744073709551615 := by
  have h2 : IntKind.u64.min ≤ n ∧ n ≤ IntKind.u64.max := by
    simp [Lit.wf] at h
    exact h
  exact h2

theorem act_open2 {H : Type} {enc : TypeId × Value → H} {w : World} {base : Nat} {spare : Nat → Bool} {held : Bool} {fuel : Nat} {cs : List Value} {x : DataW H × List MemPlace} (h : DataW.trod enc Try.prog w base spare held fuel 47 cs = some x) :
    ∃ (kd u d z h : Int) (raw reg : Bool) (nw : Int), cs = [.int .u8 kd, .int .u8 u, .int .u8 d, .int .u8 z, .int .u64 h, .bool raw, .bool reg, .int .u64 nw] ∧ (0 ≤ kd ∧ kd ≤ 255) ∧ 0 ≤ u ∧ 0 ≤ z ∧ (0 ≤ h ∧ h ≤ 18446744073709551615) ∧ (0 ≤ nw ∧ nw ≤ 18446744073709551615) := by
  obtain ⟨xs, n, _, rfl, hl, hlen, hf⟩ := DataW.trod_struct Try.underlying47 h
  have hl8 : cs.length = 8 := hl.trans (by kernel_rfl)
  obtain ⟨c0, c1, c2, c3, c4, c5, c6, c7, rfl⟩ := list8 hl8
  have hx8 : xs.length = 8 := hlen
  obtain ⟨x0, x1, x2, x3, x4, x5, x6, x7, rfl⟩ := list8 hx8
  have z5 : Try.prog.cellsOf 5 = 1 := by kernel_rfl
  have z25 : Try.prog.cellsOf 25 = 1 := by kernel_rfl
  have z4 : Try.prog.cellsOf 4 = 1 := by kernel_rfl
  have g0 := hf 0 _ rfl
  simp only [z5, List.drop_succ_cons, List.drop_zero, List.take_succ_cons, List.take_zero, List.getElem?_cons_succ, List.getElem?_cons_zero] at g0
  obtain ⟨kd, e0, -, wf0⟩ := DataW.trod_int Try.underlying5 g0
  injection e0 with e0
  subst e0
  have g1 := hf 1 _ rfl
  simp only [z5, List.drop_succ_cons, List.drop_zero, List.take_succ_cons, List.take_zero, List.getElem?_cons_succ, List.getElem?_cons_zero] at g1
  obtain ⟨u, e1, -, wf1⟩ := DataW.trod_int Try.underlying5 g1
  injection e1 with e1
  subst e1
  have g2 := hf 2 _ rfl
  simp only [z5, List.drop_succ_cons, List.drop_zero, List.take_succ_cons, List.take_zero, List.getElem?_cons_succ, List.getElem?_cons_zero] at g2
  obtain ⟨d, e2, -, wf2⟩ := DataW.trod_int Try.underlying5 g2
  injection e2 with e2
  subst e2
  have g3 := hf 3 _ rfl
  simp only [z5, List.drop_succ_cons, List.drop_zero, List.take_succ_cons, List.take_zero, List.getElem?_cons_succ, List.getElem?_cons_zero] at g3
  obtain ⟨z, e3, -, wf3⟩ := DataW.trod_int Try.underlying5 g3
  injection e3 with e3
  subst e3
  have g4 := hf 4 _ rfl
  simp only [z25, List.drop_succ_cons, List.drop_zero, List.take_succ_cons, List.take_zero, List.getElem?_cons_succ, List.getElem?_cons_zero] at g4
  obtain ⟨hd, e4, -, wf4⟩ := DataW.trod_int Try.underlying25 g4
  injection e4 with e4
  subst e4
  have g5 := hf 5 _ rfl
  simp only [z4, List.drop_succ_cons, List.drop_zero, List.take_succ_cons, List.take_zero, List.getElem?_cons_succ, List.getElem?_cons_zero] at g5
  obtain ⟨raw, e5, -⟩ := DataW.trod_bool Try.underlying4 g5
  injection e5 with e5
  subst e5
  have g6 := hf 6 _ rfl
  simp only [z4, List.drop_succ_cons, List.drop_zero, List.take_succ_cons, List.take_zero, List.getElem?_cons_succ, List.getElem?_cons_zero] at g6
  obtain ⟨reg, e6, -⟩ := DataW.trod_bool Try.underlying4 g6
  injection e6 with e6
  subst e6
  have g7 := hf 7 _ rfl
  simp only [z25, List.drop_succ_cons, List.drop_zero, List.take_succ_cons, List.take_zero, List.getElem?_cons_succ, List.getElem?_cons_zero] at g7
  obtain ⟨nw, e7, -, wf7⟩ := DataW.trod_int Try.underlying25 g7
  injection e7 with e7
  subst e7
  exact ⟨kd, u, d, z, hd, raw, reg, nw, rfl, ⟨wf_u8 wf0, wf_u8_le wf0⟩, wf_u8 wf1, wf_u8 wf3, wf_u64 wf4, wf_u64 wf7⟩

theorem cells8 {w : World} {base : Nat} {a : Addr} {v0 v1 v2 v3 v4 v5 v6 v7 : Value} (h : w.cells? base a 8 = some [v0, v1, v2, v3, v4, v5, v6, v7]) :
    w.cell? a = some v0 ∧ w.cell? ⟨a.block, a.off + 1, none⟩ = some v1 ∧ w.cell? ⟨a.block, a.off + 2, none⟩ = some v2 ∧ w.cell? ⟨a.block, a.off + 3, none⟩ = some v3 ∧ w.cell? ⟨a.block, a.off + 4, none⟩ = some v4 ∧ w.cell? ⟨a.block, a.off + 5, none⟩ = some v5 ∧ w.cell? ⟨a.block, a.off + 6, none⟩ = some v6 ∧ w.cell? ⟨a.block, a.off + 7, none⟩ = some v7 := by
  unfold World.cells? at h
  split at h
  · simpa [List.range_succ, Addr.add, Option.bind_eq_some_iff] using h
  · cases h

/-- An act, in eight cells from p on. -/
def ActAt (w : World) (p : Addr) (kd u d z h : Int) (raw reg : Bool) (nw : Int) : Prop :=
  w.cell? p = some (.int .u8 kd) ∧ w.cell? ⟨p.block, p.off + 1, none⟩ = some (.int .u8 u) ∧ w.cell? ⟨p.block, p.off + 2, none⟩ = some (.int .u8 d) ∧ w.cell? ⟨p.block, p.off + 3, none⟩ = some (.int .u8 z) ∧
    w.cell? ⟨p.block, p.off + 4, none⟩ = some (.int .u64 h) ∧ w.cell? ⟨p.block, p.off + 5, none⟩ = some (.bool raw) ∧ w.cell? ⟨p.block, p.off + 6, none⟩ = some (.bool reg) ∧ w.cell? ⟨p.block, p.off + 7, none⟩ = some (.int .u64 nw)
theorem ActAt.below {w w' : World} {B : Nat} {p : Addr} {kd u d z h : Int} {raw reg : Bool} {nw : Int} (k : ActAt w p kd u d z h raw reg nw) (hb : Below B w w') (hp : p.block < B) : ActAt w' p kd u d z h raw reg nw := by
  obtain ⟨k0, k1, k2, k3, k4, k5, k6, k7⟩ := k
  exact ⟨(hb.cell hp).trans k0, (hb.cell (p := ⟨p.block, p.off + 1, none⟩) hp).trans k1, (hb.cell (p := ⟨p.block, p.off + 2, none⟩) hp).trans k2, (hb.cell (p := ⟨p.block, p.off + 3, none⟩) hp).trans k3, (hb.cell (p := ⟨p.block, p.off + 4, none⟩) hp).trans k4, (hb.cell (p := ⟨p.block, p.off + 5, none⟩) hp).trans k5, (hb.cell (p := ⟨p.block, p.off + 6, none⟩) hp).trans k6, (hb.cell (p := ⟨p.block, p.off + 7, none⟩) hp).trans k7⟩
/-- The acts that came in: n of them from A on. -/
def ActsAt (w : World) (A : Option Addr) (n : Nat) : Prop :=
  n = 0 ∨ ∃ a, A = some a ∧ a.block < w.heap.size ∧ ∀ i, i < n → ∃ (kd u d z h : Int) (raw reg : Bool) (nw : Int), ActAt w (a.add (i * 8)) kd u d z h raw reg nw ∧ (0 ≤ kd ∧ kd ≤ 255) ∧ 0 ≤ u ∧ 0 ≤ z ∧ (0 ≤ h ∧ h ≤ 18446744073709551615) ∧ (0 ≤ nw ∧ nw ≤ 18446744073709551615)

theorem begin_bounds (room life last : Int) (l : List S34) (s : S34) (now : Int) (h0 : 0 ≤ last) (h1 : last ≤ 18446744073709551615) :
    (0 ≤ (beginS room life last l s now).2.2.1 ∧ (beginS room life last l s now).2.2.1 ≤ 18446744073709551615) ∧ (beginS room life last l s now).2.2.2.length ≤ l.length + 1 := by
  have hf : (sweepS now l).length ≤ l.length := List.length_filter_le _ _
  unfold beginS
  split
  · exact ⟨⟨h0, h1⟩, Nat.le_succ_of_le hf⟩
  split
  · exact ⟨⟨h0, h1⟩, Nat.le_succ_of_le hf⟩
  split
  · exact ⟨⟨h0, h1⟩, Nat.le_succ_of_le hf⟩
  split
  · exact ⟨⟨h0, h1⟩, Nat.le_succ_of_le hf⟩
  split
  · exact ⟨⟨h0, h1⟩, Nat.le_succ_of_le hf⟩
  · refine ⟨⟨?_, ?_⟩, ?_⟩
    · show 0 ≤ last + 1; omega
    · show last + 1 ≤ _; omega
    · rw [List.length_append]; exact Nat.add_le_add_right hf 1
theorem take_bounds (hd now : Int) (l : List S34) : (takeS hd now l).2.2.length ≤ l.length := by
  have hf : ∀ k, (l.eraseIdx k).length ≤ l.length := fun k => by rw [List.length_eraseIdx]; split <;> omega
  unfold takeS
  split
  · exact Nat.le_refl _
  split
  · exact hf _
  · exact hf _

theorem rbegin_drawn (F : Nat → Prop) (g base : Nat) (room life last now : Int) (l : List S34) (hh : Int) (u : ByteArray) (e : Int) (r a : Bool) (A : Option Addr) (c : Nat) (dl : List Int) (w w2 : World)
    (hB : BookAt w base F g 45 room life last l) (hF : ∀ k, F k → k < w.heap.size) (hn : l.length ≤ 1000000) (h2 : Below w.heap.size w w2) (hr : Kd.R (Kd.int .u8) 5 w2 w.heap.size (fun _ => True) (.slice A dl.length c) dl)
    (hl0 : 0 ≤ last) (hl1 : last ≤ 18446744073709551615) (o : Int × Int × Int × List S34) (ho : beginS room life last l ⟨hh, u, dl, e, r, a⟩ now = o) :
    Calls Try.prog 13 #[.pointer (some ⟨g, 0, none⟩), .agg #[.int .u64 hh, .string u, .slice A dl.length c, .int .u64 e, .bool r, .bool a], .int .u64 now] w2 fun e' w' => e' = .returned (.tuple #[.int .u64 o.1, .int .i64 o.2.1]) ∧
      BookAt w' base (fun k => (F k ∨ w2.heap.size ≤ k) ∧ k < w'.heap.size) g 45 room life o.2.2.1 o.2.2.2 ∧ Ft F w2 w' := by
  subst ho
  have h := rbegin_calls F (fun k => w.heap.size ≤ k) g base w.heap.size room life last now l ⟨hh, e, u, A, dl.length, c, r, a⟩ ⟨hh, u, dl, e, r, a⟩ w2
    (hB.step (fun k hk hlt => h2.block k hlt)) (fun k hk => Nat.lt_of_lt_of_le (hF k hk) h2.size) hn ⟨rfl, rfl, rfl, rfl, rfl, rfl, Kd.R_mono (Kd.R_bound hr) (fun k hk => hk.2.1)⟩ (fun k hk hf => by have := hF k hf; omega) hl0 hl1
  refine h.mono ?_
  rintro e' w' ⟨rfl, hb, hf⟩
  exact ⟨rfl, hb.bound, hf⟩
theorem rtake_own (F : Nat → Prop) (g base : Nat) (room life last handle now : Int) (l : List S34) (w : World) (hB : BookAt w base F g 45 room life last l) (hF : ∀ k, F k → k < w.heap.size) (hn : l.length ≤ 1000000) (o : S34 × Int × List S34) (ho : takeS handle now l = o) :
    Calls Try.prog 14 #[.pointer (some ⟨g, 0, none⟩), .int .u64 handle, .int .u64 now] w fun e w' => ∃ (A : Option Addr) (c : Nat), e = .returned (.tuple #[.agg #[.int .u64 o.1.f0, .string o.1.f1, .slice A o.1.f2.length c, .int .u64 o.1.f3, .bool o.1.f4, .bool o.1.f5], .int .i64 o.2.1]) ∧
      Kd.R (Kd.int .u8) 5 w' base (fun k => F k ∨ w.heap.size ≤ k) (.slice A o.1.f2.length c) o.1.f2 ∧ BookAt w' base (fun k => (F k ∨ w.heap.size ≤ k) ∧ k < w'.heap.size) g 45 room life last o.2.2 ∧ Ft F w w' := by
  subst ho
  refine (rtake_calls F g base room life last handle now l w hB hF hn).mono ?_
  rintro e w' ⟨⟨xh, xe, xu, xA, xn, xc, xr, xa⟩, rfl, hs, hb, hf⟩
  obtain ⟨h0, h1, h2, h3, h4, h5, h6⟩ := hs
  simp only at h0 h1 h2 h3 h4 h5 h6
  subst h0 h1 h2 h3 h4 h5
  exact ⟨xA, xc, rfl, h6, hb.bound, hf⟩

theorem same_calls (y : S34) (A1 A2 : Option Addr) (c1 c2 : Nat) (w : World) (b1 b2 : Nat) (ok1 ok2 : Nat → Prop) (h1 : Kd.R (Kd.int .u8) 5 w b1 ok1 (.slice A1 y.f2.length c1) y.f2) (h2 : Kd.R (Kd.int .u8) 5 w b2 ok2 (.slice A2 y.f2.length c2) y.f2) :
    Calls Try.prog 15 #[.agg #[.int .u64 y.f0, .string y.f1, .slice A1 y.f2.length c1, .int .u64 y.f3, .bool y.f4, .bool y.f5], .agg #[.int .u64 y.f0, .string y.f1, .slice A2 y.f2.length c2, .int .u64 y.f3, .bool y.f4, .bool y.f5]] w fun e w' => e = .returned (.bool true) ∧ Below w.heap.size w w' := by
  obtain ⟨A1', c1', e1, hc1, hC1⟩ := Kd.R_reads h1
  obtain ⟨A2', c2', e2, hc2, hC2⟩ := Kd.R_reads h2
  injection e1 with e11 _ e13
  injection e2 with e21 _ e23
  subst e11 e13 e21 e23
  exact latchkeyref20_SameSessions.calls y.f0 y.f1 A1 c1 y.f2 y.f3 y.f4 y.f5 y.f0 y.f1 A2 c2 y.f2 y.f3 y.f4 y.f5 true w hC1 hc1 hC2 hc2 (by simp [latchkeyref20_SameSessions.f])

/-- Both books, apart from each other, one list. -/
def TwoB (w0 wr : World) (g1 g2 : Nat) (room life last : Int) (l : List S34) (m : Nat) : Prop :=
  ∃ F1 F2 : Nat → Prop, (0 ≤ last ∧ last ≤ 18446744073709551615 ∧ l.length ≤ m) ∧ BookAt wr w0.heap.size F1 g1 58 room life last l ∧ BookAt wr w0.heap.size F2 g2 45 room life last l ∧
    (∀ k, F1 k → w0.heap.size ≤ k ∧ k < wr.heap.size) ∧ (∀ k, F2 k → w0.heap.size ≤ k ∧ k < wr.heap.size) ∧ (∀ k, F1 k → ¬ F2 k) ∧ Below w0.heap.size w0 wr
theorem TwoB.below {w0 wr w' : World} {g1 g2 : Nat} {room life last : Int} {l : List S34} {m m' : Nat} (h : TwoB w0 wr g1 g2 room life last l m) (hb : Below wr.heap.size wr w') (hm : m ≤ m') : TwoB w0 w' g1 g2 room life last l m' := by
  obtain ⟨F1, F2, ⟨a, b, c⟩, h1, h2, h3, h4, h5, h6⟩ := h
  exact ⟨F1, F2, ⟨a, b, Nat.le_trans c hm⟩, h1.step (fun k _ hk => hb.block k hk), h2.step (fun k _ hk => hb.block k hk), fun k hk => ⟨(h3 k hk).1, Nat.lt_of_lt_of_le (h3 k hk).2 hb.size⟩, fun k hk => ⟨(h4 k hk).1, Nat.lt_of_lt_of_le (h4 k hk).2 hb.size⟩, h5, h6.trans (hb.mono h6.size)⟩

end Go.Proofs.Ytphbpcmncelkhaa.Sess
