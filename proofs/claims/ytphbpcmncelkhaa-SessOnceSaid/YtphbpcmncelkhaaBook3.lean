/- slices.Delete of one session; DeleteFunc where nothing goes. -/
import Derived.Test.YtphbpcmncelkhaaBook2
import Derived.Deep.RegionLaw
set_option linter.unusedVariables false
set_option linter.unusedSimpArgs false
namespace Go.Proofs.Ytphbpcmncelkhaa.Sess
open Go.RowKit Go.Shelf Go.Proofs.YtphbpcmncelkhaaW.PrintWords Go.Proofs.YtphbpcmncelkhaaW.PrintLast Go.Proofs.YtphbpcmncelkhaaW.PrintMore
open Go.Proofs.Ytphbpcmncelkhaa.PSessPlays

set_option maxHeartbeats 4000000 in
theorem deleteFunc_none (s lb : Value) (w : World) (hidx : Calls Try.prog 24 #[s, lb] w fun e w' => e = .returned (.int .i64 (-1)) ∧ Below w.heap.size w w') :
    Calls Try.prog 27 #[s, lb] w fun e w' => e = .returned s ∧ Below w.heap.size w w' := by
  go_enter Try.func27, Try.ntmps27
  go_wp2_with (go_at_call 24; refine hidx.mono ?_; rintro e w' ⟨rfl, hb0⟩)
  go_ret
  exact ⟨rfl, hb0⟩

/-! ### cells that are stored in a row -/
theorem setCells_blk (g t : Nat) : ∀ (vs : List Value) (o : Nat) (cur : Array Value) (w : World), w.heap[g]? = some (.cells cur t (0, 0)) →
    ∃ cur', (w.setCells g o vs).heap[g]? = some (.cells cur' t (0, 0)) ∧ cur'.size = cur.size ∧ ∀ k, cur'[k]? = if o ≤ k ∧ k < o + vs.length ∧ k < cur.size then vs[k - o]? else cur[k]?
  | [], o, cur, w, h => ⟨cur, h, rfl, fun k => by rw [if_neg (by simp; omega)]⟩
  | v :: r, o, cur, w, h => by
    obtain ⟨cur', h1, h2, h3⟩ := setCells_blk g t r (o + 1) (cur.setIfInBounds o v) (w.setCell ⟨g, o, none⟩ v) (blk_set h o v)
    refine ⟨cur', h1, by simpa using h2, fun k => ?_⟩
    rw [h3 k, Array.size_setIfInBounds, Array.getElem?_setIfInBounds]
    simp only [List.length_cons]
    by_cases a : k = o
    · subst a
      rw [if_neg (by omega), if_pos rfl]
      by_cases b : k < cur.size
      · rw [if_pos b, if_pos (by omega), Nat.sub_self]; rfl
      · rw [if_neg b, if_neg (by omega), Array.getElem?_eq_none (by omega)]
    · by_cases b : o ≤ k ∧ k < o + (r.length + 1) ∧ k < cur.size
      · rw [if_pos b, if_pos (by omega)]
        obtain ⟨m, hm⟩ : ∃ m, k - o = m + 1 := ⟨k - o - 1, by omega⟩
        rw [hm, show k - (o + 1) = m by omega]
        rfl
      · rw [if_neg b, if_neg (by omega), if_neg (fun e => a e.symm)]
theorem setCells_far (g : Nat) : ∀ (vs : List Value) (o : Nat) (w : World) (k : Nat), k ≠ g → (w.setCells g o vs).heap[k]? = w.heap[k]?
  | [], _, _, _, _ => rfl
  | v :: r, o, w, k, h => (setCells_far g r (o + 1) _ k h).trans (Below.heap_setCell w ⟨g, o, none⟩ v k h)
theorem setCells_ft (g : Nat) : ∀ (vs : List Value) (o : Nat) (w : World), Ft (fun k => k = g) w (w.setCells g o vs)
  | [], o, w => Ft.refl _ _
  | v :: r, o, w => ((Ft.refl (fun k => k = g) w).setCell (p := ⟨g, o, none⟩) (.inl rfl) v).trans (setCells_ft g r (o + 1) _) (fun _ h => .inl h)

def Cs.cells (x : Cs) : List Value := [.int .u64 x.h, .string x.u, .slice x.dA x.dn x.dc, .int .u64 x.e, .bool x.r, .bool x.a]
/-- The cells of the chunks behind place i. -/
def movedF (f : Nat → Cs) (i m : Nat) : List Value := (List.range m).flatMap fun t => (f (i + 1 + t)).cells
theorem movedF_length (f : Nat → Cs) (i m : Nat) : (movedF f i m).length = m * 6 := by
  unfold movedF
  induction m with
  | zero => rfl
  | succ m ih => rw [List.range_succ, List.flatMap_append, List.length_append, ih]; simp [Cs.cells]; omega
theorem movedF_get (f : Nat → Cs) (i m t q : Nat) (ht : t < m) (hq : q < 6) : (movedF f i m)[t * 6 + q]? = (f (i + 1 + t)).cells[q]? := by
  induction m with
  | zero => omega
  | succ m ih =>
    have e : movedF f i (m + 1) = movedF f i m ++ (f (i + 1 + m)).cells := by
      unfold movedF
      rw [List.range_succ, List.flatMap_append]
      simp
    rw [e]
    by_cases h : t < m
    · rw [List.getElem?_append_left (by rw [movedF_length]; omega), ih h]
    · have : t = m := by omega
      subst this
      rw [List.getElem?_append_right (by rw [movedF_length]; omega), movedF_length]
      congr 1
      omega
theorem movedF_one (f : Nat → Cs) (i m : Nat) : ∀ u ∈ movedF f i m, u.oneCell' = true := by
  intro u hu
  obtain ⟨t, _, hu⟩ := List.mem_flatMap.1 hu
  simp only [Cs.cells, List.mem_cons, List.not_mem_nil, or_false] at hu
  rcases hu with rfl | rfl | rfl | rfl | rfl | rfl <;> rfl
/-- One place is struck: the rest moves on by one, the last stays. -/
def struckF (f : Nat → Cs) (i n : Nat) : Nat → Cs := fun j => if i ≤ j ∧ j < n - 1 then f (j + 1) else f j
theorem RowF.moved {w : World} {g cap n i : Nat} {f : Nat → Cs} (h : RowF w g cap n f) (hi : i < n) : RowF (w.setCells g (i * 6) (movedF f i (n - (i + 1)))) g cap n (struckF f i n) := by
  obtain ⟨cur, h1, h2, h3, h4⟩ := h
  obtain ⟨cur', k1, k2, k3⟩ := setCells_blk g 34 (movedF f i (n - (i + 1))) (i * 6) cur w h1
  refine ⟨cur', k1, by omega, h3, fun j hj => ?_⟩
  rw [movedF_length] at k3
  have hc := h4 j hj
  unfold struckF ChunkIs
  by_cases a : i ≤ j ∧ j < n - 1
  · rw [if_pos a]
    have e : ∀ q, q < 6 → cur'[j * 6 + q]? = (f (j + 1)).cells[q]? := by
      intro q hq
      rw [k3, if_pos (by omega), show j * 6 + q - i * 6 = (j - i) * 6 + q by omega, movedF_get _ _ _ _ _ (by omega) hq, show i + 1 + (j - i) = j + 1 by omega]
    exact ⟨e 0 (by decide), e 1 (by decide), e 2 (by decide), e 3 (by decide), e 4 (by decide), e 5 (by decide)⟩
  · rw [if_neg a]
    have e : ∀ q, q < 6 → cur'[j * 6 + q]? = cur[j * 6 + q]? := by
      intro q hq
      rw [k3, if_neg (by omega)]
    exact ⟨(e 0 (by decide)).trans hc.1, (e 1 (by decide)).trans hc.2.1, (e 2 (by decide)).trans hc.2.2.1, (e 3 (by decide)).trans hc.2.2.2.1, (e 4 (by decide)).trans hc.2.2.2.2.1, (e 5 (by decide)).trans hc.2.2.2.2.2⟩

theorem info34 : (Try.prog.info? 34).map (fun i => (i.zero, i.size, i.bytes)) = some (some (.agg #[.int .u64 0, .string ⟨#[]⟩, .slice none 0 0, .int .u64 0, .bool false, .bool false]), 6, 64) := by kernel_rfl

set_option maxHeartbeats 4000000 in
set_option maxRecDepth 1000000 in
theorem delete_calls (g c n i : Nat) (f : Nat → Cs) (w : World) (hrow : RowF w g c n f) (hi : i < n) (hm : c ≤ 9223372036854775807) :
    Calls Try.prog 26 #[.slice (some ⟨g, 0, none⟩) n c, .int .i64 i, .int .i64 ((i : Int) + 1)] w fun e w' => e = .returned (.slice (some ⟨g, 0, none⟩) (n - 1) c) ∧
      RowF w' g c n (clearedF (struckF f i n) (n - 1)) ∧ Ft (fun k => k = g) w w' := by
  obtain ⟨i0, hi0, hz0, hz1, hz2⟩ := info_parts info34
  have hnc : n ≤ c := by obtain ⟨cur, _, _, h3, _⟩ := hrow; exact h3
  obtain ⟨A, hA, hnews⟩ : ∃ A : Addr, (if c = i + 1 then some (⟨g, 0, none⟩ : Addr) else some ⟨g, (i + 1) * 6, none⟩) = some A ∧ Hid (∀ j u, (movedF f i (n - (i + 1)))[j]? = some u → w.drew.cell? (A.add j) = some u) := by
    by_cases h : c = i + 1
    · refine ⟨⟨g, 0, none⟩, by simp [h], fun j u hu => ?_⟩
      have h0 : (movedF f i (n - (i + 1))).length = 0 := by rw [movedF_length]; omega
      rw [List.length_eq_zero_iff.1 h0] at hu
      simp at hu
    · refine ⟨⟨g, (i + 1) * 6, none⟩, by simp [h], fun j u hu => ?_⟩
      have hj : j < (n - (i + 1)) * 6 := by
        have := (List.getElem?_eq_some_iff.1 hu).1
        rwa [movedF_length] at this
      have hg := movedF_get f i (n - (i + 1)) (j / 6) (j % 6) (by omega) (by omega)
      rw [show j / 6 * 6 + j % 6 = j by omega] at hg
      rw [hg] at hu
      rw [add_at]
      obtain ⟨c0, c1, c2, c3, c4, c5⟩ := hrow.cell (i + 1 + j / 6) (by omega)
      have hm6 : j % 6 = 0 ∨ j % 6 = 1 ∨ j % 6 = 2 ∨ j % 6 = 3 ∨ j % 6 = 4 ∨ j % 6 = 5 := by omega
      show w.cell? _ = _
      rcases hm6 with e | e | e | e | e | e <;> rw [e] at hu <;> rw [← hu]
      · rw [show (i + 1) * 6 + j = (i + 1 + j / 6) * 6 by omega]; exact c0
      · rw [show (i + 1) * 6 + j = (i + 1 + j / 6) * 6 + 1 by omega]; exact c1
      · rw [show (i + 1) * 6 + j = (i + 1 + j / 6) * 6 + 2 by omega]; exact c2
      · rw [show (i + 1) * 6 + j = (i + 1 + j / 6) * 6 + 3 by omega]; exact c3
      · rw [show (i + 1) * 6 + j = (i + 1 + j / 6) * 6 + 4 by omega]; exact c4
      · rw [show (i + 1) * 6 + j = (i + 1 + j / 6) * 6 + 5 by omega]; exact c5
  have s1 : Hid ((movedF f i (n - (i + 1))).length = (n - (i + 1)) * 6) := movedF_length _ _ _
  have s2 : Hid (∀ u ∈ movedF f i (n - (i + 1)), u.oneCell' = true) := movedF_one _ _ _
  have s3 : Hid (∀ j, j < (movedF f i (n - (i + 1))).length → (w.drew.cell? ⟨g, 0 + i * 6 + j, none⟩).isSome = true ∧ w.drew.frozen? ⟨g, 0 + i * 6 + j, none⟩ = false) := by
    intro j hj
    rw [movedF_length] at hj
    obtain ⟨cur, h1, h2, h3, h4⟩ := hrow
    refine ⟨?_, blk_frozen h1 _⟩
    show (w.cell? _).isSome = true
    rw [blk_cell h1, Array.getElem?_eq_getElem (by omega)]
    rfl
  have hrowd : RowF w.drew g c n f := hrow
  have hmv := Aside0.mk (hrowd.moved hi)
  have hmf := Aside0.mk (setCells_ft g (movedF f i (n - (i + 1))) (i * 6) w.drew)
  have hic : i ≤ c := by omega
  have hwr : IntKind.i64.wrap ((i : Int) + 1) = (i : Int) + 1 := by rw [IntKind.wrap_i64]; omega
  have hp0 : (0 : Int) ≤ (i : Int) + 1 := by omega
  have hp1 : (i : Int) + 1 ≤ (n : Int) := by omega
  have hp2 : ((i : Int) + 1).toNat = i + 1 := by omega
  have hp3 : ((i : Int) == (i : Int) + 1) = false := beq_eq_false_iff_ne.2 (by omega)
  clear hrow hrowd
  go_enter Try.func26, Try.ntmps26
  go_wp2_with fail
  go_region_law (refine step_append_room rfl (.tmp 22) (.tmp 25) 43 rfl 34 i0 6 Try.underlying43 hi0 hz1 g 0 i c (by simp [Act.eval, Act.put]) A (n - (i + 1)) (c - (i + 1)) (movedF f i (n - (i + 1))) (by simp [Act.eval, Act.put]) s1.out hnews.out s2.out (by omega) s3.out ?_)
  obtain ⟨W, hW⟩ : ∃ W, W = w.drew.setCells g (i * 6) (movedF f i (n - (i + 1))) := ⟨_, rfl⟩
  rw [← hW] at hmv hmf ⊢
  clear hW
  have hlast : i + (n - (i + 1)) = n - 1 := by omega
  have hcn : ¬ c = n - 1 := by omega
  obtain ⟨wz, hz, HRz, HFz⟩ := run_clear34 W g c n (n - 1) (struckF f i n) (c - (n - 1)) hmv.out (by omega)
  rw [show n - (n - 1) = 1 by omega] at hz
  have HZ1 := Aside0.mk HRz
  have HZ2 := Aside0.mk HFz
  clear HRz HFz hmv
  rw [hlast]
  obtain ⟨n1, hn1⟩ : ∃ n1, n = n1 + 1 := ⟨n - 1, by omega⟩
  subst hn1
  simp only [Nat.add_sub_cancel] at hz hcn ⊢
  go_wp2
  go_ret
  exact ⟨rfl, HZ1.out, ((Ft.refl (fun k => k = g) w).drew.trans hmf.out (fun _ h => .inl h)).trans HZ2.out (fun _ h => .inl h)⟩

end Go.Proofs.Ytphbpcmncelkhaa.Sess
