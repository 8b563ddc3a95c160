/- The search and the striking of slices at a row of sessions, as laws on owned rows; sweep. -/
import Derived.Test.YtphbpcmncelkhaaBook4
set_option linter.unusedVariables false
set_option linter.unusedSimpArgs false
namespace Go.Proofs.Ytphbpcmncelkhaa.Sess
open Go.RowKit Go.Shelf Go.Proofs.YtphbpcmncelkhaaW.PrintWords Go.Proofs.YtphbpcmncelkhaaW.PrintLast Go.Proofs.YtphbpcmncelkhaaW.PrintMore
open Go.Proofs.Ytphbpcmncelkhaa.PSessPlays

/-! ### what is computed -/
def endsS (life now : Int) : Int := if now ≤ IntKind.u64.wrap (now + life) then IntKind.u64.wrap (now + life) else 18446744073709551615
def sweepS (now : Int) (l : List S34) : List S34 := l.filter fun y => decide (now < y.f3)

def Cs.ch (x : Cs) : Ch := ⟨.int .u64 x.h, .string x.u, .slice x.dA x.dn x.dc, .int .u64 x.e, .bool x.r, .bool x.a⟩
theorem getD_map_range (f : Nat → Cs) (n j : Nat) (h : j < n) : ((List.range n).map fun i => (f i).ch).getD j zCh = (f j).ch := by
  rw [List.getD_eq_getElem?_getD, List.getElem?_map, List.getElem?_range h]
  rfl
theorem RowF.cellsAt {w : World} {g cap n : Nat} {f : Nat → Cs} (h : RowF w g cap n f) : CellsAt w g ((List.range n).map fun i => (f i).ch) := by
  intro j hj
  have hj' : j < n := by simpa using hj
  obtain ⟨c0, c1, c2, c3, c4, c5⟩ := h.cell j hj'
  rw [getD_map_range f n j hj']
  exact ⟨c0, c1, c2, c3, c4, c5⟩

theorem idxq_cases (q : Nat → Bool) (n : Nat) : (∃ k, k < n ∧ q k = true ∧ ∀ j, j < k → q j = false) ∨ (∀ j, j < n → q j = false) := by
  induction n with
  | zero => exact .inr fun j hj => absurd hj (Nat.not_lt_zero _)
  | succ n ih =>
    rcases ih with ⟨k, hk, h1, h2⟩ | h
    · exact .inl ⟨k, by omega, h1, h2⟩
    · cases hq : q n with
      | true => exact .inl ⟨n, by omega, hq, h⟩
      | false =>
        refine .inr fun j hj => ?_
        by_cases e : j = n
        · rw [e, hq]
        · exact h j (by omega)

/-- The first place of the row at which p holds; -1. -/
def idxP (p : S34 → Bool) (xs : List S34) : Int := idxq (fun j => p (xs.getD j z34)) xs.length

theorem getD_of {xs : List S34} {j : Nat} (h : j < xs.length) : xs[j]? = some (xs.getD j z34) := by
  rw [List.getD_eq_getElem?_getD, List.getElem?_eq_getElem h]; rfl

/-- slices.IndexFunc at a row of sessions. -/
theorem index_R (gf : Nat) (lb : Array Value) (eg : ∀ args w, (callFunc gf args).run Try.prog w = .ok (.enter gf args) w) (p : S34 → Bool) {v : Value} {xs : List S34} {w : World} {base : Nat} {ok : Nat → Prop}
    (h : k34.R 34 w base ok v xs) (hn : xs.length ≤ 140737488355328)
    (hcl : ∀ (W : World) (x : Cs) (y : S34), y ∈ xs → SessM W base ok x y → Below w.heap.size w W → Calls Try.prog gf (#[.agg #[.int .u64 x.h, .string x.u, .slice x.dA x.dn x.dc, .int .u64 x.e, .bool x.r, .bool x.a]] ++ lb) W fun e w' => e = .returned (.bool (p y)) ∧ Below w.heap.size w w') :
    Calls Try.prog 24 #[v, .func (.func gf) #[] lb] w fun e w' => e = .returned (.int .i64 (idxP p xs)) ∧ Below w.heap.size w w' := by
  rcases row_of_R h with ⟨rfl, rfl⟩ | ⟨g, cap, f, rfl, hrow, hcm, hb, hg, hM⟩
  · exact indexFunc_none gf lb none 0 w
  · have hlen : ((List.range xs.length).map fun i => (f i).ch).length = xs.length := by simp
    have hcall := indexFunc_some gf lb eg (fun j => p (xs.getD j z34)) g cap ((List.range xs.length).map fun i => (f i).ch) w (by rw [hlen]; exact hn) hrow.lt hrow.cellsAt (fun W j hj hW => by
      have hj' : j < xs.length := by simpa using hj
      rw [getD_map_range f xs.length j hj']
      have hs := hM j _ (getD_of hj')
      refine hcl W (f j) (xs.getD j z34) (List.mem_of_getElem? (getD_of hj')) ?_ hW
      exact (hs.mono (fun k hk => hk.1)).step (fun k _ hk => hW.block k hk))
    rw [hlen] at hcall
    exact hcall

theorem filt_rel (M : Cs → S34 → Prop) (p : Cs → Bool) (q : S34 → Bool) (hpq : ∀ x y, M x y → p x = q y) : ∀ (A : List Cs) (L : List S34), A.length = L.length → (∀ (j : Nat) x y, A[j]? = some x → L[j]? = some y → M x y) →
    (A.filter p).length = (L.filter q).length ∧ ∀ (j : Nat) x y, (A.filter p)[j]? = some x → (L.filter q)[j]? = some y → M x y
  | [], [], _, _ => ⟨rfl, fun j x y h => by simp at h⟩
  | [], _ :: _, h, _ => by simp at h
  | _ :: _, [], h, _ => by simp at h
  | a :: A, b :: L, h, hM => by
    have ih := filt_rel M p q hpq A L (by simpa using h) (fun j x y hx hy => hM (j + 1) x y (by simpa using hx) (by simpa using hy))
    have hab := hM 0 a b rfl rfl
    have he := hpq a b hab
    rw [List.filter_cons, List.filter_cons, ← he]
    by_cases e : p a = true
    · rw [if_pos e, if_pos e]
      refine ⟨by simp [ih.1], fun j x y hx hy => ?_⟩
      cases j with
      | zero =>
        obtain rfl := Option.some.inj (show some a = some x from hx)
        obtain rfl := Option.some.inj (show some b = some y from hy)
        exact hab
      | succ j => exact ih.2 j x y (by simpa using hx) (by simpa using hy)
    · rw [if_neg e, if_neg e]
      exact ih

theorem Ft.none {w w' : World} (h : Below w.heap.size w w') : Ft (fun _ => False) w w' := Ft.of_below h _

/-- slices.DeleteFunc of those whose time is over. -/
theorem deleteFunc_R (B : Nat) (now : Int) {v : Value} {xs : List S34} {w : World} {base : Nat} {ok : Nat → Prop}
    (h : k34.R 34 w base ok v xs) (hn : xs.length ≤ 140737488355328) (hB : w.heap[B]? = some (.cells #[.int .u64 now] 25 (0, 0))) :
    Calls Try.prog 27 #[v, .func (.func 28) #[] #[.pointer (some ⟨B, 0, none⟩)]] w fun e w' => ∃ v', e = .returned v' ∧ k34.R 34 w' base ok v' (sweepS now xs) ∧ Ft ok w w' := by
  have eg : ∀ args w, (callFunc 28 args).run Try.prog w = .ok (.enter 28 args) w := enters_of Try.func28 (by kernel_rfl) rfl
  have hidx := index_R 28 #[.pointer (some ⟨B, 0, none⟩)] eg (fun y => decide (y.f3 ≤ now)) h hn (fun W x y hy hs hW => by
    have hBW := (hW.block B (blk_lt hB)).trans hB
    have hc := sweep1 x.h x.e now (.string x.u) (.slice x.dA x.dn x.dc) (.bool x.r) (.bool x.a) B W hBW
    refine hc.mono ?_
    rintro e w' ⟨rfl, rfl⟩
    refine ⟨by rw [hs.2.2.1], below_alloc hW _⟩)
  rcases row_of_R h with ⟨rfl, rfl⟩ | ⟨g, cap, f, rfl, hrow, hcm, hb, hg, hM⟩
  · refine (deleteFunc_none _ _ w hidx).mono ?_
    rintro e w' ⟨rfl, hb⟩
    exact ⟨_, rfl, Kd.R_step h (fun k _ hk => hb.block k hk), Ft.of_below hb _⟩
  · rcases idxq_cases (fun j => decide ((xs.getD j z34).f3 ≤ now)) xs.length with ⟨k, hk, h1, h2⟩ | hno
    · have he : ∀ j, j < xs.length → (f j).e = (xs.getD j z34).f3 := fun j hj => (hM j _ (getD_of hj)).2.2.1
      have hi : idxP (fun y => decide (y.f3 ≤ now)) xs = k := idxq_hit hk h1 h2
      rw [hi] at hidx
      refine (deleteFunc_some g cap B xs.length now f w hrow hB hn k hk (by rw [he k hk]; exact of_decide_eq_true h1) (fun j hj => ?_) hidx).mono ?_
      · have := of_decide_eq_false (h2 j hj)
        rw [he j (by omega)]; omega
      · rintro e w' ⟨rfl, hr, hf⟩
        obtain ⟨hl, hf2⟩ := filt_rel (fun x y => SessM w base (fun k => ok k ∧ k ≠ g) x y) (fun x => decide (now < x.e)) (fun y => decide (now < y.f3)) (fun x y hxy => by rw [hxy.2.2.1]) ((List.range xs.length).map f) xs (by simp) (fun j x y hx hy => by
          rw [List.getElem?_map] at hx
          have hj : j < xs.length := (List.getElem?_eq_some_iff.1 hy).1
          rw [List.getElem?_range hj] at hx
          obtain rfl := Option.some.inj (show some (f j) = some x from hx)
          exact hM j y hy)
        have hl' : (keptOf now f xs.length).length = (sweepS now xs).length := hl
        refine ⟨_, rfl, ?_, hf.mono (fun k hk => by rw [hk]; exact hg)⟩
        rw [hl'] 
        refine R_of_row (hr.take ?_) hcm hb hg (fun j y hy => ?_)
        · exact List.length_filter_le _ _
        · have hj : j < (sweepS now xs).length := (List.getElem?_eq_some_iff.1 hy).1
          have hx : (keptOf now f xs.length)[j]? = some ((keptOf now f xs.length).getD j zCs) := by
            rw [List.getD_eq_getElem?_getD, List.getElem?_eq_getElem (by omega)]; rfl
          exact (hf2 j _ y hx hy).step (fun k hk hk2 => hf.block k hk2 hk.2)
    · have hi : idxP (fun y => decide (y.f3 ≤ now)) xs = -1 := idxq_miss hno
      rw [hi] at hidx
      refine (deleteFunc_none _ _ w hidx).mono ?_
      rintro e w' ⟨rfl, hb⟩
      refine ⟨_, rfl, ?_, Ft.of_below hb _⟩
      have hs : sweepS now xs = xs := by
        unfold sweepS
        rw [List.filter_eq_self]
        intro y hy
        obtain ⟨j, hj, rfl⟩ := List.mem_iff_getElem.1 hy
        have := of_decide_eq_false (hno j hj)
        rw [List.getD_eq_getElem?_getD, List.getElem?_eq_getElem hj] at this
        simp only [Option.getD_some] at this
        exact decide_eq_true (by omega)
      rw [hs]
      exact Kd.R_step h (fun k _ hk => hb.block k hk)

set_option maxHeartbeats 4000000 in
theorem sweep_calls (F : Nat → Prop) (g base : Nat) (room life last now : Int) (l : List S34) (w : World) (hB : BookAt w base F g 58 room life last l) (hn : l.length ≤ 140737488355328) :
    Calls Try.prog 18 #[.pointer (some ⟨g, 0, none⟩), .int .u64 now] w fun e w' => e = .returned (.tuple #[]) ∧ BookAt w' base F g 58 room life last (sweepS now l) ∧ Ft F w w' := by
  obtain ⟨v, hb, hFg, hbg, hR⟩ := hB
  have hlt := blk_lt hb
  have hne : g ≠ w.heap.size := by omega
  have hc : w.cell? ⟨g, 3, none⟩ = some v := (blk_cell hb 3).trans rfl
  have hfz := blk_frozen hb
  have hd := deleteFunc_R w.heap.size now (Kd.R_step hR (w1 := w.alloc (.cells #[.int .u64 now] 25)) (fun k _ hk => Below.heap_alloc _ _ _ hk)) hn (by show (w.heap.push _)[w.heap.size]? = _; simp)
  have HB := Aside0.mk hb
  clear hR hb
  go_enter Try.func18, Try.ntmps18
  go_wp2_with (go_at_call 27; refine hd.mono ?_; rintro e w' ⟨v', rfl, hr, hf⟩; obtain ⟨A, c, rfl⟩ := Kd.R_slice hr; have HR := Aside0.mk hr; have HF := Aside0.mk hf; have hg' := hf.blk ((Below.heap_alloc _ _ _ (blk_lt HB.out)).trans HB.out) (fun h => h.2 rfl); have HB' := Aside0.mk hg'; have hc' := (blk_cell hg' 3); have hfz' := blk_frozen hg'; clear hr hf hg')
  go_end0
  have hset := blk_set HB'.out 3 (.slice A (sweepS now l).length c)
  refine ⟨rfl, ⟨_, hset, hFg, hbg, Kd.R_step HR.out (fun k hk _ => ?_)⟩, ?_⟩
  · exact Below.heap_setCell _ _ _ k hk.2
  · have hb0 : Below w.heap.size w (w.alloc (.cells #[.int .u64 now] 25)) := below_alloc (Below.refl _ _) _
    exact ((Ft.of_below hb0 F).trans HF.out (fun i hi => .inl hi.1)).setCell (p := ⟨g, 3, none⟩) (.inl hFg) _

end Go.Proofs.Ytphbpcmncelkhaa.Sess
