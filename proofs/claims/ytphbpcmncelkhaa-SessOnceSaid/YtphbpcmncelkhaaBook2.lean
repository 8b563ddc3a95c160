/- slices.DeleteFunc at sweep's closure. -/
import Derived.Test.YtphbpcmncelkhaaBook1
set_option linter.unusedVariables false
set_option linter.unusedSimpArgs false
namespace Go.Proofs.Ytphbpcmncelkhaa.Sess
open Go.RowKit Go.Shelf Go.Proofs.YtphbpcmncelkhaaW.PrintWords Go.Proofs.YtphbpcmncelkhaaW.PrintLast Go.Proofs.YtphbpcmncelkhaaW.PrintMore
open Go.Proofs.Ytphbpcmncelkhaa.PSessPlays

/-! ### clear(s[i:]) -/
/-- From place i on there are zeros. -/
def clearedF (f : Nat → Cs) (i : Nat) : Nat → Cs := fun j => if i ≤ j then zCs else f j
def zArr : Array Value := #[.int .u64 0, .string ⟨#[]⟩, .slice none 0 0, .int .u64 0, .bool false, .bool false]
theorem zArr_at (k : Nat) : (Builtin.zeroCells zArr k).size = k * 6 ∧ ∀ j, j < k * 6 → (Builtin.zeroCells zArr k)[j]? = zArr[j % 6]? := by
  refine ⟨by rw [size_zeroCells]; rfl, fun j hj => ?_⟩
  unfold Builtin.zeroCells
  have hs : zArr.size = 6 := rfl
  rw [hs, Array.getElem?_map, Array.getElem?_range, if_pos hj]
  have : j % 6 < zArr.size := by rw [hs]; omega
  simp only [Option.map_some]
  rw [getElem!_pos zArr (j % 6) this, Array.getElem?_eq_getElem this]
theorem zArr_one : ∀ v ∈ zArr.toList, v.oneCell' = true := by decide

theorem run_clear34 (w : World) (g cap n i : Nat) (f : Nat → Cs) (c : Nat) (h : RowF w g cap n f) (hi : i < n) :
    ∃ w', (Builtin.clear_ #[43] 0 #[.slice (some ⟨g, i * 6, none⟩) (n - i) c]).run Try.prog w = .ok (.tuple #[]) w' ∧ RowF w' g cap n (clearedF f i) ∧ Ft (fun k => k = g) w w' := by
  obtain ⟨cur, h1, h2, h3, h4⟩ := h
  obtain ⟨m, hm⟩ : ∃ m, n - i = m + 1 := ⟨n - i - 1, by omega⟩
  have hz : ∀ w, (zeroValue 34).run Try.prog w = .ok (.agg zArr) w := fun w => by kernel_rfl
  obtain ⟨hsz, hat⟩ := zArr_at (m + 1)
  have hone : ∀ v ∈ (Builtin.zeroCells zArr (m + 1)).toList, v.oneCell' = true := by
    intro v hv
    obtain ⟨j, hj, rfl⟩ := List.mem_iff_getElem.1 hv
    rw [Array.length_toList, hsz] at hj
    have e := hat j hj
    rw [Array.getElem?_eq_getElem (by rw [hsz]; exact hj)] at e
    have hz6 : j % 6 < zArr.size := by show j % 6 < 6; omega
    rw [Array.getElem?_eq_getElem hz6] at e
    have e2 := Option.some.inj e
    rw [Array.getElem_toList, e2]
    exact zArr_one _ (by simp)
  have hst := run_storeCells_at (P := Try.prog) g (i * 6) 34 (Builtin.zeroCells zArr (m + 1)).toList 0 cur w h1 (by rw [Array.length_toList, hsz]; omega) hone
  rw [Nat.add_zero, Array.length_toList, hsz] at hst
  have hcells : (Value.agg zArr).cells = zArr := rfl
  refine ⟨w.setRow g (cur.toList.take (i * 6) ++ (Builtin.zeroCells zArr (m + 1)).toList ++ cur.toList.drop (i * 6 + (m + 1) * 6)).toArray, ?_, ?_, ?_⟩
  · rw [hm]
    simp [Builtin.clear_, run_underlying Try.underlying43, hz, hcells, hst]
  · refine ⟨_, setRow_heap w g cur _ 34 _ h1, ?_, h3, fun j hj => ?_⟩
    · simp [hsz, h2]; omega
    · have hget : ∀ k, (cur.toList.take (i * 6) ++ (Builtin.zeroCells zArr (m + 1)).toList ++ cur.toList.drop (i * 6 + (m + 1) * 6)).toArray[k]? = if k < i * 6 then cur[k]? else if k < n * 6 then zArr[(k - i * 6) % 6]? else cur[k]? := by
        intro k
        rw [List.getElem?_toArray, List.append_assoc, List.getElem?_append]
        have hl : (cur.toList.take (i * 6)).length = i * 6 := by rw [List.length_take, Array.length_toList]; omega
        rw [hl]
        by_cases a : k < i * 6
        · rw [if_pos a, if_pos a, List.getElem?_take, if_pos a, Array.getElem?_toList]
        · rw [if_neg a, if_neg a, List.getElem?_append, Array.length_toList, hsz]
          by_cases b : k < n * 6
          · rw [if_pos b, if_pos (by omega), Array.getElem?_toList, hat _ (by omega)]
          · rw [if_neg b, if_neg (by omega), List.getElem?_drop, Array.getElem?_toList]
            congr 1
            omega
      unfold ChunkIs clearedF
      simp only [hget]
      by_cases a : i ≤ j
      · rw [if_pos a]
        repeat (first | rw [if_neg (by omega)] | rw [if_pos (by omega)])
        rw [show (j * 6 - i * 6) % 6 = 0 by omega, show (j * 6 + 1 - i * 6) % 6 = 1 by omega, show (j * 6 + 2 - i * 6) % 6 = 2 by omega, show (j * 6 + 3 - i * 6) % 6 = 3 by omega, show (j * 6 + 4 - i * 6) % 6 = 4 by omega, show (j * 6 + 5 - i * 6) % 6 = 5 by omega]
        exact ⟨rfl, rfl, rfl, rfl, rfl, rfl⟩
      · rw [if_neg a]
        repeat (first | rw [if_pos (by omega)])
        exact h4 j hj
  · exact ⟨rfl, rfl, rfl, by simp [World.setRow], fun k hk hn => setRow_other w g k _ hn⟩

/-! ### slices.DeleteFunc -/
def keptOf (now : Int) (f : Nat → Cs) (n : Nat) : List Cs := ((List.range n).map f).filter fun x => decide (now < x.e)
theorem keptOf_succ (now : Int) (f : Nat → Cs) (n : Nat) : keptOf now f (n + 1) = keptOf now f n ++ (if now < (f n).e then [f n] else []) := by
  unfold keptOf
  rw [List.range_succ, List.map_append, List.filter_append]
  congr 1
  by_cases h : now < (f n).e <;> simp [h]
theorem keptOf_le (now : Int) (f : Nat → Cs) (n : Nat) : (keptOf now f n).length ≤ n := by
  unfold keptOf
  have := List.length_filter_le (fun x : Cs => decide (now < x.e)) ((List.range n).map f)
  simpa using this
theorem keptOf_all (now : Int) (f : Nat → Cs) (n : Nat) (h : ∀ j, j < n → now < (f j).e) : keptOf now f n = (List.range n).map f := by
  unfold keptOf
  rw [List.filter_eq_self]
  intro x hx
  obtain ⟨j, hj, rfl⟩ := List.mem_map.1 hx
  exact decide_eq_true (h j (by simpa using hj))

set_option maxHeartbeats 4000000 in
theorem deleteFunc_some (g c B n : Nat) (now : Int) (f : Nat → Cs) (w : World) (hrow : RowF w g c n f) (hB : w.heap[B]? = some (.cells #[.int .u64 now] 25 (0, 0))) (hn : n ≤ 140737488355328)
    (k0 : Nat) (hk0 : k0 < n) (hk1 : (f k0).e ≤ now) (hk2 : ∀ j, j < k0 → now < (f j).e)
    (hidx : Calls Try.prog 24 #[.slice (some ⟨g, 0, none⟩) n c, .func (.func 28) #[] #[.pointer (some ⟨B, 0, none⟩)]] w fun e w' => e = .returned (.int .i64 (k0 : Int)) ∧ Below w.heap.size w w') :
    Calls Try.prog 27 #[.slice (some ⟨g, 0, none⟩) n c, .func (.func 28) #[] #[.pointer (some ⟨B, 0, none⟩)]] w fun e w' => e = .returned (.slice (some ⟨g, 0, none⟩) (keptOf now f n).length c) ∧
      RowF w' g c n (fun j => (keptOf now f n).getD j zCs) ∧ Ft (fun k => k = g) w w' := by
  have eg : ∀ args w, (callFunc 28 args).run Try.prog w = .ok (.enter 28 args) w := enters_of Try.func28 (by kernel_rfl) rfl
  have hne1 : ((k0 : Int) == -1) = false := beq_eq_false_iff_ne.2 (by omega)
  have hgB : g ≠ B := by
    rintro rfl
    obtain ⟨cur, h1, _⟩ := hrow
    rw [h1] at hB
    injection hB with hB
    injection hB with _ ht
    cases ht
  have hK0 : keptOf now f (k0 + 1) = (List.range k0).map f := by rw [keptOf_succ, keptOf_all now f k0 hk2, if_neg (by omega), List.append_nil]
  have hnc : n ≤ c := by obtain ⟨cur, _, _, h3, _⟩ := hrow; exact h3
  have HR := Aside0.mk hrow
  have HBk := Aside0.mk hB
  have HK0 := Aside0.mk hK0
  clear hrow hB hk1 hk2 hK0
  go_enter Try.func27, Try.ntmps27
  go_wp2_with (go_at_call 24; refine hidx.mono ?_; rintro e w' ⟨rfl, hb0⟩)
  have HR0 := Aside0.mk (HR.out.blk (hb0.block g HR.out.lt))
  have HF0 := Aside0.mk (Ft.of_below hb0 (fun k => k = g))
  have HB0 := Aside0.mk ((hb0.block B (blk_lt HBk.out)).trans HBk.out)
  have hsz := hb0.size
  go_loopg [5, 6, 7] n (fun gg s5 s6 _ wr => ∃ (i j : Nat) (f' : Nat → Cs), s5 = .int .i64 i ∧ s6 = .int .i64 j ∧ i < j ∧ j ≤ n ∧ n - j ≤ gg ∧ Aside0 ((keptOf now f j).length = i) ∧ Aside0 (∀ t, t < i → f' t = (keptOf now f j).getD t zCs) ∧ Aside0 (∀ t, j ≤ t → f' t = f t) ∧
    Aside0 (RowF wr g c n f') ∧ Aside0 (Ft (fun k => k = g) w wr))
  case atStart =>
    refine ⟨k0, k0 + 1, f, rfl, by go_num, by omega, by omega, by omega, ⟨by rw [HK0.out]; simp⟩, ⟨fun t ht => ?_⟩, ⟨fun _ _ => rfl⟩, HR0, HF0⟩
    rw [HK0.out, List.getD_eq_getElem?_getD, List.getElem?_map, List.getElem?_range ht]
    rfl
  case round =>
    obtain ⟨i, j, f', rfl, rfl, hij, hjn, hgg, HI, H1, H2, HRr, HFr⟩ := hrel
    by_cases hlt : j < n
    · have hjn' : (j : Int) < (n : Int) := by omega
      obtain ⟨l0, l1, l2, l3, l4, l5⟩ := HRr.out.cell j hlt
      obtain ⟨m0, m1, m2, m3, m4, m5⟩ := HRr.out.cell i (by omega)
      have hfz := HRr.out.frozen
      have hgl := HRr.out.lt
      have hfj : f' j = f j := H2.out j (Nat.le_refl _)
      rw [hfj] at l0 l1 l2 l3 l4 l5
      have HBr := Aside0.mk ((HFr.out.block B (blk_lt HBk.out) (fun e => hgB e.symm)).trans HBk.out)
      generalize hx : f j = x at l0 l1 l2 l3 l4 l5
      have HX := Aside0.mk hx
      clear hx hfj
      have hcall := sweep1 x.h x.e now (.string x.u) (.slice x.dA x.dn x.dc) (.bool x.r) (.bool x.a) B (wr.alloc (.cells #[.int .u64 x.h, .string x.u, .slice x.dA x.dn x.dc, .int .u64 x.e, .bool x.r, .bool x.a] 34)) ((Below.heap_alloc _ _ _ (blk_lt HBr.out)).trans HBr.out)
      by_cases hq : x.e ≤ now
      · have hqb : decide (x.e ≤ now) = true := decide_eq_true hq
        rw [hqb] at hcall
        go_wp2_with (go_at_fn 28; refine hcall.mono ?_; rintro e w' ⟨rfl, rfl⟩)
        go_roundg (n - (j + 1))
        case measure => omega
        case rel =>
          have hk : keptOf now f (j + 1) = keptOf now f j := by rw [keptOf_succ, HX.out, if_neg (by omega), List.append_nil]
          exact ⟨i, j + 1, f', rfl, by go_num, by omega, by omega, by omega, ⟨by rw [hk]; exact HI.out⟩, ⟨by rw [hk]; exact H1.out⟩, ⟨fun t ht => H2.out t (by omega)⟩, ⟨(HRr.out.blk (Below.heap_alloc _ _ _ hgl)).blk (Below.heap_alloc _ _ _ (by simp; omega))⟩, ⟨(HFr.out.alloc _).alloc _⟩⟩
      · have hqb : decide (x.e ≤ now) = false := decide_eq_false hq
        rw [hqb] at hcall
        go_wp2_with (go_at_fn 28; refine hcall.mono ?_; rintro e w' ⟨rfl, rfl⟩)
        go_roundg (n - (j + 1))
        case measure => omega
        case rel =>
          have hk : keptOf now f (j + 1) = keptOf now f j ++ [x] := by rw [keptOf_succ, HX.out, if_pos (by omega)]
          have hlen : (keptOf now f (j + 1)).length = i + 1 := by rw [hk, List.length_append, HI.out]; rfl
          have hr0 := HRr.out.stored (show i < n by omega) x
          have hr := (hr0.blk (Below.heap_alloc _ (.cells #[.int .u64 x.h, .string x.u, .slice x.dA x.dn x.dc, .int .u64 x.e, .bool x.r, .bool x.a] 34) _ hr0.lt)).blk (Below.heap_alloc _ (.cells #[.int .u64 x.h, .string x.u, .slice x.dA x.dn x.dc, .int .u64 x.e, .bool x.r, .bool x.a] 34) _ (Nat.lt_of_lt_of_le hr0.lt (by simp)))
          have hf := ((HFr.out.stored (g := g) (i := i) (x := x) (.inl rfl)).alloc (.cells #[.int .u64 x.h, .string x.u, .slice x.dA x.dn x.dc, .int .u64 x.e, .bool x.r, .bool x.a] 34)).alloc (.cells #[.int .u64 x.h, .string x.u, .slice x.dA x.dn x.dc, .int .u64 x.e, .bool x.r, .bool x.a] 34)
          clear hr0
          refine ⟨i + 1, j + 1, fun t => if t = i then x else f' t, by go_num, by go_num, by omega, by omega, by omega, ⟨hlen⟩, ⟨fun t ht => ?_⟩, ⟨fun t ht => ?_⟩, ⟨hr⟩, ⟨hf⟩⟩
          · show (if t = i then x else f' t) = _
            rw [hk, List.getD_eq_getElem?_getD]
            by_cases e : t = i
            · rw [if_pos e, e, List.getElem?_append_right (by rw [HI.out]; exact Nat.le_refl _), HI.out, Nat.sub_self]; rfl
            · rw [if_neg e, List.getElem?_append_left (by rw [HI.out]; omega), H1.out t (by omega), List.getD_eq_getElem?_getD]
          · show (if t = i then x else f' t) = _
            rw [if_neg (by omega)]
            exact H2.out t (by omega)
    · have : j = n := by omega
      subst this
      have hic : ¬ c = i := by omega
      obtain ⟨wz, hz, HRz, HFz⟩ := run_clear34 wr g c j i f' (c - i) HRr.out (by omega)
      have HZ1 := Aside0.mk HRz
      have HZ2 := Aside0.mk HFz
      clear HRz HFz
      go_wp2
      go_ret
      refine ⟨by rw [HI.out]; rfl, HZ1.out.congr (fun t ht => ?_), HFr.out.trans HZ2.out (fun _ h => .inl h)⟩
      unfold clearedF
      by_cases a : i ≤ t
      · rw [if_pos a, List.getD_eq_getElem?_getD, List.getElem?_eq_none (by rw [HI.out]; exact a)]; rfl
      · rw [if_neg a, H1.out t (by omega)]

end Go.Proofs.Ytphbpcmncelkhaa.Sess
