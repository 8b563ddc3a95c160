/- slices.Delete at a row of sessions, as a law on owned rows; Take, Live of sess. -/
import Derived.Test.YtphbpcmncelkhaaBook5
set_option linter.unusedVariables false
set_option linter.unusedSimpArgs false
namespace Go.Proofs.Ytphbpcmncelkhaa.Sess
open Go.RowKit Go.Shelf Go.Proofs.YtphbpcmncelkhaaW.PrintWords Go.Proofs.YtphbpcmncelkhaaW.PrintLast Go.Proofs.YtphbpcmncelkhaaW.PrintMore
open Go.Proofs.Ytphbpcmncelkhaa.PSessPlays

theorem delete_R {g2 n2 cap2 : Nat} {xs : List S34} {w : World} {base : Nat} {ok : Nat → Prop} (h : k34.R 34 w base ok (.slice (some ⟨g2, 0, none⟩) n2 cap2) xs) (i : Nat) (hi : i < xs.length) :
    Calls Try.prog 26 #[.slice (some ⟨g2, 0, none⟩) n2 cap2, .int .i64 i, .int .i64 ((i : Int) + 1)] w fun e w' => ∃ v', e = .returned v' ∧ k34.R 34 w' base ok v' (xs.eraseIdx i) ∧ Ft (fun k => k = g2) w w' := by
  rcases row_of_R h with ⟨hv, rfl⟩ | ⟨g, cap, f, hv, hrow, hcm, hb, hg, hM⟩
  · simp at hi
  · injection hv with h1 h2 h3
    injection h1 with h1
    injection h1 with h1
    subst h1 h2 h3
    refine (delete_calls g2 cap2 xs.length i f w hrow hi hcm).mono ?_
    rintro e w' ⟨rfl, hr, hf⟩
    have hl : (xs.eraseIdx i).length = xs.length - 1 := List.length_eraseIdx_of_lt hi
    refine ⟨_, rfl, ?_, hf⟩
    rw [← hl]
    refine R_of_row (hr.take (by omega)) hcm hb hg (fun j y hy => ?_)
    have hj : j < xs.length - 1 := by
      have := (List.getElem?_eq_some_iff.1 hy).1
      omega
    have e1 : clearedF (struckF f i xs.length) (xs.length - 1) j = if i ≤ j then f (j + 1) else f j := by
      unfold clearedF struckF
      rw [if_neg (by omega)]
      by_cases a : i ≤ j
      · rw [if_pos a, if_pos ⟨a, hj⟩]
      · rw [if_neg a, if_neg (fun h => a h.1)]
    rw [e1]
    rw [List.getElem?_eraseIdx] at hy
    by_cases a : i ≤ j
    · rw [if_pos a]
      rw [if_neg (by omega)] at hy
      exact (hM (j + 1) y hy).step (fun k hk hk2 => hf.block k hk2 hk.2)
    · rw [if_neg a]
      rw [if_pos (by omega)] at hy
      exact (hM j y hy).step (fun k hk hk2 => hf.block k hk2 hk.2)

/-- What Take does. -/
def takeS (handle now : Int) (l : List S34) : S34 × Int × List S34 :=
  if idxP (fun y => y.f0 == handle) l < 0 then (z34, 87, l)
  else if (l.getD (idxP (fun y => y.f0 == handle) l).toNat z34).f3 ≤ now then (z34, 85, l.eraseIdx (idxP (fun y => y.f0 == handle) l).toNat)
  else (l.getD (idxP (fun y => y.f0 == handle) l).toNat z34, 0, l.eraseIdx (idxP (fun y => y.f0 == handle) l).toNat)

theorem zCs_M (w : World) (base : Nat) (ok : Nat → Prop) : SessM w base ok zCs z34 := ⟨rfl, rfl, rfl, rfl, rfl, rfl, Kd.R_nil _ _ _ _ _⟩

def Cs.agg (x : Cs) : Value := .agg #[.int .u64 x.h, .string x.u, .slice x.dA x.dn x.dc, .int .u64 x.e, .bool x.r, .bool x.a]

theorem six {w : World} {B t : Nat} {a b c d e f : Value} (h : w.heap[B]? = some (.cells #[a, b, c, d, e, f] t (0, 0))) :
    w.cell? ⟨B, 0, none⟩ = some a ∧ w.cell? ⟨B, 1, none⟩ = some b ∧ w.cell? ⟨B, 2, none⟩ = some c ∧ w.cell? ⟨B, 3, none⟩ = some d ∧ w.cell? ⟨B, 4, none⟩ = some e ∧ w.cell? ⟨B, 5, none⟩ = some f ∧ ∀ i, w.frozen? ⟨B, i, none⟩ = false :=
  ⟨(blk_cell h 0).trans rfl, (blk_cell h 1).trans rfl, (blk_cell h 2).trans rfl, (blk_cell h 3).trans rfl, (blk_cell h 4).trans rfl, (blk_cell h 5).trans rfl, blk_frozen h⟩

theorem six_put {w : World} {B t : Nat} {a b c d e f : Value} (h : w.heap[B]? = some (.cells #[a, b, c, d, e, f] t (0, 0))) (v0 v1 v2 v3 v4 v5 : Value) :
    ((((((w.setCell ⟨B, 0, none⟩ v0).setCell ⟨B, 1, none⟩ v1).setCell ⟨B, 2, none⟩ v2).setCell ⟨B, 3, none⟩ v3).setCell ⟨B, 4, none⟩ v4).setCell ⟨B, 5, none⟩ v5).heap[B]? = some (.cells #[v0, v1, v2, v3, v4, v5] t (0, 0)) := by
  have := blk_set (blk_set (blk_set (blk_set (blk_set (blk_set h 0 v0) 1 v1) 2 v2) 3 v3) 4 v4) 5 v5
  simpa using this
theorem six_sum {w : World} {B t : Nat} {a b c d e f : Value} (h : w.heap[B]? = some (.cells #[a, b, c, d, e, f] t (0, 0))) (v0 v1 v2 v3 v4 v5 : Value) :
    ∃ W, W = ((((((w.setCell ⟨B, 0, none⟩ v0).setCell ⟨B, 1, none⟩ v1).setCell ⟨B, 2, none⟩ v2).setCell ⟨B, 3, none⟩ v3).setCell ⟨B, 4, none⟩ v4).setCell ⟨B, 5, none⟩ v5) ∧ W.heap[B]? = some (.cells #[v0, v1, v2, v3, v4, v5] t (0, 0)) ∧
      (∀ k, k ≠ B → W.heap[k]? = w.heap[k]?) ∧ Ft (fun k => k = B) w W :=
  ⟨_, rfl, six_put h v0 v1 v2 v3 v4 v5, fun k hk => by
    rw [Below.heap_setCell _ _ _ k hk, Below.heap_setCell _ _ _ k hk, Below.heap_setCell _ _ _ k hk, Below.heap_setCell _ _ _ k hk, Below.heap_setCell _ _ _ k hk, Below.heap_setCell _ _ _ k hk],
   ((((((Ft.refl (fun k => k = B) w).setCell (p := ⟨B, 0, none⟩) (.inl rfl) _).setCell (p := ⟨B, 1, none⟩) (.inl rfl) _).setCell (p := ⟨B, 2, none⟩) (.inl rfl) _).setCell (p := ⟨B, 3, none⟩) (.inl rfl) _).setCell (p := ⟨B, 4, none⟩) (.inl rfl) _).setCell (p := ⟨B, 5, none⟩) (.inl rfl) _⟩
/-- Six cells stored into block B. -/
theorem six_set {w : World} {B t : Nat} {a b c d e f : Value} (h : w.heap[B]? = some (.cells #[a, b, c, d, e, f] t (0, 0))) (x : Cs) :
    (stored w B 0 x).heap[B]? = some (.cells #[.int .u64 x.h, .string x.u, .slice x.dA x.dn x.dc, .int .u64 x.e, .bool x.r, .bool x.a] t (0, 0)) := by
  unfold stored
  have := blk_set (blk_set (blk_set (blk_set (blk_set (blk_set h 0 (.int .u64 x.h)) 1 (.string x.u)) 2 (.slice x.dA x.dn x.dc)) 3 (.int .u64 x.e)) 4 (.bool x.r)) 5 (.bool x.a)
  simpa using this

theorem blk_kept_set {w : World} {B g i t : Nat} {cs : Array Value} (h : w.heap[B]? = some (.cells cs t (0, 0))) (hn : g ≠ B) (u : Value) : (w.setCell ⟨g, i, none⟩ u).heap[B]? = some (.cells cs t (0, 0)) :=
  (Below.heap_setCell w ⟨g, i, none⟩ u B (fun e => hn e.symm)).trans h
theorem size34 : (Try.prog.info? 34).map (·.size) = some 6 := by kernel_rfl
theorem stored_far (w : World) (B i k : Nat) (x : Cs) (h : k ≠ B) : (stored w B i x).heap[k]? = w.heap[k]? := by
  unfold stored
  rw [Below.heap_setCell _ _ _ k h, Below.heap_setCell _ _ _ k h, Below.heap_setCell _ _ _ k h, Below.heap_setCell _ _ _ k h, Below.heap_setCell _ _ _ k h, Below.heap_setCell _ _ _ k h]

set_option maxHeartbeats 4000000 in
theorem take_calls (F : Nat → Prop) (g base : Nat) (room life last handle now : Int) (l : List S34) (w : World) (hB : BookAt w base F g 58 room life last l) (hF : ∀ k, F k → k < w.heap.size) (hn : l.length ≤ 140737488355328) :
    Calls Try.prog 11 #[.pointer (some ⟨g, 0, none⟩), .int .u64 handle, .int .u64 now] w fun e w' => ∃ x : Cs, e = .returned (.tuple #[x.agg, .int .i64 (takeS handle now l).2.1]) ∧ SessM w' base F x (takeS handle now l).1 ∧ BookAt w' base F g 58 room life last (takeS handle now l).2.2 ∧ Ft F w w' := by
  obtain ⟨v, hb, hFg, hbg, hR⟩ := hB
  have eg : ∀ args w, (callFunc 25 args).run Try.prog w = .ok (.enter 25 args) w := enters_of Try.func25 (by kernel_rfl) rfl
  have hlt := blk_lt hb
  have hne : g ≠ w.heap.size := by omega
  have hne' : g ≠ w.heap.size + 1 := by omega
  have hc : w.cell? ⟨g, 3, none⟩ = some v := (blk_cell hb 3).trans rfl
  have hfz := blk_frozen hb
  obtain ⟨W1, hW1⟩ : ∃ W1, W1 = (w.alloc (.cells #[.int .u64 handle] 25)).alloc (.cells #[.int .u64 0, .string ⟨#[]⟩, .slice none 0 0, .int .u64 0, .bool false, .bool false] 34) := ⟨_, rfl⟩
  have hBel : Below w.heap.size w W1 := by rw [hW1]; exact below_alloc (below_alloc (Below.refl _ _) _) _
  have hsz1 : W1.heap.size = w.heap.size + 2 := by rw [hW1]; simp
  have hR1 := Kd.R_step hR (w1 := W1) (fun k _ hk => hBel.block k hk)
  have hb1 := (hBel.block g hlt).trans hb
  have hBb : W1.heap[w.heap.size]? = some (.cells #[.int .u64 handle] 25 (0, 0)) := by rw [hW1]; exact heap_alloc2_old _ _ _
  have hZz : W1.heap[w.heap.size + 1]? = some (.cells #[.int .u64 0, .string ⟨#[]⟩, .slice none 0 0, .int .u64 0, .bool false, .bool false] 34 (0, 0)) := by rw [hW1]; exact heap_alloc2_new _ _ _
  have hidx := index_R 25 #[.pointer (some ⟨w.heap.size, 0, none⟩)] eg (fun y => y.f0 == handle) hR1 hn (fun W x y hy hs hW => by
    have hBW := (hW.block _ (blk_lt hBb)).trans hBb
    have hcc := take1 x.h x.e handle (.string x.u) (.slice x.dA x.dn x.dc) (.bool x.r) (.bool x.a) w.heap.size W hBW
    refine hcc.mono ?_
    rintro e w' ⟨rfl, rfl⟩
    exact ⟨by rw [hs.1], below_alloc hW _⟩)
  have HB1 := Aside0.mk hb1
  have HR1 := Aside0.mk hR1
  have HBel := Aside0.mk hBel
  have HZz := Aside0.mk hZz
  have HF := Aside0.mk hF
  have HS1 := Aside0.mk hsz1
  clear hR hb hR1 hBel hBb hZz hb1 hF hsz1
  rcases idxq_cases (fun j => (l.getD j z34).f0 == handle) l.length with ⟨k, hk, h1, h2⟩ | hno
  · rcases row_of_R HR1.out with ⟨rfl, hnil⟩ | ⟨g2, cap, f, rfl, hrow, hcm, hb2, hg2, hM⟩
    · rw [hnil] at hk; exact absurd hk (Nat.not_lt_zero _)
    · have hi : idxP (fun y => y.f0 == handle) l = k := idxq_hit hk h1 h2
      rw [hi] at hidx
      have hx := hM k _ (getD_of hk)
      have hgl := hrow.lt
      have hg2w := HF.out g2 hg2.1
      have hg2g : g2 ≠ g := hg2.2
      have hgg2 : g ≠ g2 := fun h => hg2g h.symm
      have HRow := Aside0.mk hrow
      obtain ⟨x, hxx⟩ : ∃ x, f k = x := ⟨_, rfl⟩
      rw [hxx] at hx
      have HX := Aside0.mk hxx
      have hx3 : x.e = (l.getD k z34).f3 := hx.2.2.1
      have HXM := Aside0.mk hx
      have HX3 := Aside0.mk hx3
      clear hxx hx hrow hM h2 hx3
      have hltz : (k : Int) < (l.length : Int) := by omega
      have hwr : IntKind.i64.wrap ((k : Int) + 1) = (k : Int) + 1 := by rw [IntKind.wrap_i64]; omega
      have hsz := HS1.out
      have hzw : w.heap.size + 1 ≠ g := fun h => hne' h.symm
      by_cases hq : x.e ≤ now
      · have hqb : decide (x.e ≤ now) = true := decide_eq_true hq
        have e1 : takeS handle now l = (z34, 85, l.eraseIdx k) := by
          unfold takeS
          rw [hi, if_neg (by omega), Int.toNat_natCast, if_pos (by rw [← HX3.out]; exact hq)]
        rw [e1]
        clear e1 hi
        rw [hW1] at hidx
        go_enter Try.func11, Try.ntmps11
        go_wp2_with (first | (go_at_call 24; refine hidx.mono ?_; rw [← hW1]; rintro e w' ⟨rfl, hb2⟩; have hz := (hb2.block _ (blk_lt HZz.out)).trans HZz.out; obtain ⟨l0, l1, l2, l3, l4, l5⟩ := (HRow.out.blk (hb2.block g2 HRow.out.lt)).cell k hk; have c3 := (show w'.cell? ⟨g, 3, none⟩ = some (.slice (some ⟨g2, 0, none⟩) l.length cap) from blk_cell ((hb2.block g (blk_lt HB1.out)).trans HB1.out) 3); have hszw := hb2.size; have hn1 : g ≠ w'.heap.size := (by omega); have hn2 : g2 ≠ w'.heap.size := (by omega); have hn3 : g < w'.heap.size := (by omega); have hn4 : w.heap.size + 1 < w'.heap.size := (by omega); have hn5 : w.heap.size + 1 ≠ w'.heap.size := (by omega); have HZ2 := Aside0.mk hz; have HB2 := Aside0.mk hb2; clear hb2 hz; rw [HX.out] at l0 l1 l2 l3 l4 l5) |
          (go_at_call 26; obtain ⟨Wf, hWf, p1, p3⟩ : ∃ Wf, Wf = w'.alloc (.cells #[.int .u64 x.h, .string x.u, .slice x.dA x.dn x.dc, .int .u64 x.e, .bool x.r, .bool x.a] 34) ∧ Wf.heap[w'.heap.size]? = some (.cells #[.int .u64 x.h, .string x.u, .slice x.dA x.dn x.dc, .int .u64 x.e, .bool x.r, .bool x.a] 34 (0, 0)) ∧ Below w'.heap.size w' Wf := ⟨_, rfl, blk_new _ _, below_alloc (Below.refl _ _) _⟩; rw [← hWf]; have hkeep : ∀ i, i < w'.heap.size → Wf.heap[i]? = w'.heap[i]? := (fun i hi => p3.block i hi); refine (delete_R (xs := l) (Kd.R_step (Kd.R_below HR1.out HB2.out) (fun i _ hi => hkeep i hi)) k hk).mono ?_; rintro e w3 ⟨v', rfl, hr, hf⟩; obtain ⟨A', c', rfl⟩ := Kd.R_slice hr;
            have hzz := hf.blk ((hkeep _ (by omega)).trans HZ2.out) (by show ¬ _ = g2; omega); have hxx := hf.blk p1 (by show ¬ _ = g2; omega); have hbk := hf.blk ((hkeep _ (by omega)).trans ((HB2.out.block g (blk_lt HB1.out)).trans HB1.out)) (by show ¬ g = g2; omega); obtain ⟨x0, x1, x2, x3, x4, x5, x6⟩ := six hxx; obtain ⟨z0, z1, z2, z3, z4, z5, z6⟩ := six hzz; have b3 := (show w3.cell? ⟨g, 3, none⟩ = some (.slice (some ⟨g2, 0, none⟩) l.length cap) from blk_cell hbk 3); have b6 := blk_frozen hbk; have HBK := Aside0.mk hbk; have HZK := Aside0.mk hzz; have HFK := Aside0.mk hf; have HRK := Aside0.mk hr; have HKK := Aside0.mk hkeep; have HP3 := Aside0.mk p3; clear hf hr hbk hzz hxx p1 p3 hkeep))
        obtain ⟨Wf2, hWf2, h1, h2, h3⟩ := six_sum (blk_kept_set HZK.out hne' (.slice A' (l.eraseIdx k).length c')) (.int .u64 0) (.string ⟨#[]⟩) (.slice none 0 0) (.int .u64 0) (.bool false) (.bool false)
        rw [← hWf2]
        refine bodyPost_ret (results_ct (p := 6) (u := 7) (ty := 34) (by kernel_rfl) _ _ (w.heap.size + 1) 34 _ (0, 0) _ rfl h1 Try.underlying34 rfl size34) rfl ?_
        have hS := HS1.out
        have hf2 : Ft F w w' := (Ft.of_below HBel.out F).trans (Ft.of_below HB2.out (fun _ => False)) (fun _ h => h.elim)
        have hf3 : Ft F w w3 := (hf2.trans (Ft.of_below HP3.out (fun _ => False)) (fun _ h => h.elim)).trans HFK.out (fun i hi => .inl (by rw [hi]; exact hg2.1))
        have hf4 : Ft F w Wf2 := (hf3.setCell (p := ⟨g, 3, none⟩) (.inl hFg) _).trans h3 (fun i hi => .inr (by omega))
        have hne2 : ∀ k, F k → k ≠ w.heap.size + 1 := fun k hk => by have := HF.out k hk; omega
        have hW3 : ∀ i, F i → i ≠ g → Wf2.heap[i]? = w3.heap[i]? := fun i hi hg => (h2 i (hne2 i hi)).trans (Below.heap_setCell _ _ _ i hg)
        refine ⟨zCs, rfl, zCs_M _ _ _, ⟨_, (h2 _ (hne2 g hFg)).trans (blk_set HBK.out 3 _), hFg, hbg, Kd.R_step HRK.out (fun i hi _ => hW3 i hi.1 hi.2)⟩, hf4⟩
      · have hqb : decide (x.e ≤ now) = false := decide_eq_false hq
        have e1 : takeS handle now l = (l.getD k z34, 0, l.eraseIdx k) := by
          unfold takeS
          rw [hi, if_neg (by omega), Int.toNat_natCast, if_neg (by rw [← HX3.out]; exact hq)]
        rw [e1]
        clear e1 hi
        rw [hW1] at hidx
        go_enter Try.func11, Try.ntmps11
        go_wp2_with (first | (go_at_call 24; refine hidx.mono ?_; rw [← hW1]; rintro e w' ⟨rfl, hb2⟩; have hz := (hb2.block _ (blk_lt HZz.out)).trans HZz.out; obtain ⟨l0, l1, l2, l3, l4, l5⟩ := (HRow.out.blk (hb2.block g2 HRow.out.lt)).cell k hk; have c3 := (show w'.cell? ⟨g, 3, none⟩ = some (.slice (some ⟨g2, 0, none⟩) l.length cap) from blk_cell ((hb2.block g (blk_lt HB1.out)).trans HB1.out) 3); have hszw := hb2.size; have hn1 : g ≠ w'.heap.size := (by omega); have hn2 : g2 ≠ w'.heap.size := (by omega); have hn3 : g < w'.heap.size := (by omega); have hn4 : w.heap.size + 1 < w'.heap.size := (by omega); have hn5 : w.heap.size + 1 ≠ w'.heap.size := (by omega); have HZ2 := Aside0.mk hz; have HB2 := Aside0.mk hb2; clear hb2 hz; rw [HX.out] at l0 l1 l2 l3 l4 l5) |
          (go_at_call 26; obtain ⟨Wf, hWf, p1, p3⟩ : ∃ Wf, Wf = w'.alloc (.cells #[.int .u64 x.h, .string x.u, .slice x.dA x.dn x.dc, .int .u64 x.e, .bool x.r, .bool x.a] 34) ∧ Wf.heap[w'.heap.size]? = some (.cells #[.int .u64 x.h, .string x.u, .slice x.dA x.dn x.dc, .int .u64 x.e, .bool x.r, .bool x.a] 34 (0, 0)) ∧ Below w'.heap.size w' Wf := ⟨_, rfl, blk_new _ _, below_alloc (Below.refl _ _) _⟩; rw [← hWf]; have hkeep : ∀ i, i < w'.heap.size → Wf.heap[i]? = w'.heap[i]? := (fun i hi => p3.block i hi); refine (delete_R (xs := l) (Kd.R_step (Kd.R_below HR1.out HB2.out) (fun i _ hi => hkeep i hi)) k hk).mono ?_; rintro e w3 ⟨v', rfl, hr, hf⟩; obtain ⟨A', c', rfl⟩ := Kd.R_slice hr;
            have hzz := hf.blk ((hkeep _ (by omega)).trans HZ2.out) (by show ¬ _ = g2; omega); have hxx := hf.blk p1 (by show ¬ _ = g2; omega); have hbk := hf.blk ((hkeep _ (by omega)).trans ((HB2.out.block g (blk_lt HB1.out)).trans HB1.out)) (by show ¬ g = g2; omega); obtain ⟨x0, x1, x2, x3, x4, x5, x6⟩ := six hxx; obtain ⟨z0, z1, z2, z3, z4, z5, z6⟩ := six hzz; have b3 := (show w3.cell? ⟨g, 3, none⟩ = some (.slice (some ⟨g2, 0, none⟩) l.length cap) from blk_cell hbk 3); have b6 := blk_frozen hbk; have HBK := Aside0.mk hbk; have HZK := Aside0.mk hzz; have HFK := Aside0.mk hf; have HRK := Aside0.mk hr; have HKK := Aside0.mk hkeep; have HP3 := Aside0.mk p3; clear hf hr hbk hzz hxx p1 p3 hkeep))
        obtain ⟨Wf2, hWf2, h1, h2, h3⟩ := six_sum (blk_kept_set HZK.out hne' (.slice A' (l.eraseIdx k).length c')) (.int .u64 x.h) (.string x.u) (.slice x.dA x.dn x.dc) (.int .u64 x.e) (.bool x.r) (.bool x.a)
        rw [← hWf2]
        refine bodyPost_ret (results_ct (p := 6) (u := 7) (ty := 34) (by kernel_rfl) _ _ (w.heap.size + 1) 34 _ (0, 0) _ rfl h1 Try.underlying34 rfl size34) rfl ?_
        have hS := HS1.out
        have hf2 : Ft F w w' := (Ft.of_below HBel.out F).trans (Ft.of_below HB2.out (fun _ => False)) (fun _ h => h.elim)
        have hf3 : Ft F w w3 := (hf2.trans (Ft.of_below HP3.out (fun _ => False)) (fun _ h => h.elim)).trans HFK.out (fun i hi => .inl (by rw [hi]; exact hg2.1))
        have hf4 : Ft F w Wf2 := (hf3.setCell (p := ⟨g, 3, none⟩) (.inl hFg) _).trans h3 (fun i hi => .inr (by omega))
        have hne2 : ∀ k, F k → k ≠ w.heap.size + 1 := fun k hk => by have := HF.out k hk; omega
        have hW3 : ∀ i, F i → i ≠ g → Wf2.heap[i]? = w3.heap[i]? := fun i hi hg => (h2 i (hne2 i hi)).trans (Below.heap_setCell _ _ _ i hg)
        have hxf : SessM Wf2 base F x (l.getD k z34) := (HXM.out.step (fun i hi hlt => ((hW3 i hi.1.1 hi.1.2).trans (HFK.out.block i (Nat.lt_of_lt_of_le (Nat.lt_of_lt_of_le hlt HB2.out.size) HP3.out.size) hi.2)).trans ((HKK.out i (Nat.lt_of_lt_of_le hlt HB2.out.size)).trans (HB2.out.block i hlt)))).mono (fun i hi => hi.1.1)
        refine ⟨x, rfl, hxf, ⟨_, (h2 _ (hne2 g hFg)).trans (blk_set HBK.out 3 _), hFg, hbg, Kd.R_step HRK.out (fun i hi _ => hW3 i hi.1 hi.2)⟩, hf4⟩
  · have hi : idxP (fun y => y.f0 == handle) l = -1 := idxq_miss hno
    rw [hi] at hidx
    have e1 : takeS handle now l = (z34, 87, l) := by unfold takeS; rw [hi]; rfl
    rw [e1]
    clear e1 hno hi
    rw [hW1] at hidx
    go_enter Try.func11, Try.ntmps11
    go_wp2_with (go_at_call 24; refine hidx.mono ?_; rw [← hW1]; rintro e w' ⟨rfl, hb2⟩; have hz := (hb2.block _ (blk_lt HZz.out)).trans HZz.out; obtain ⟨z0, z1, z2, z3, z4, z5, z6⟩ := six hz; have HZ2 := Aside0.mk hz; have HB2 := Aside0.mk hb2; clear hb2 hz)
    (try simp only [Exit.inBlock, Exit.then])
    obtain ⟨Wf, hWf, h1, h2, h3⟩ := six_sum HZ2.out (.int .u64 0) (.string ⟨#[]⟩) (.slice none 0 0) (.int .u64 0) (.bool false) (.bool false)
    rw [← hWf]
    refine bodyPost_ret (results_ct (p := 6) (u := 7) (ty := 34) (by kernel_rfl) _ _ (w.heap.size + 1) 34 _ (0, 0) _ rfl h1 Try.underlying34 rfl size34) rfl ?_
    have hS := HS1.out
    have hf2 : Ft F w w' := (Ft.of_below HBel.out F).trans (Ft.of_below HB2.out (fun _ => False)) (fun _ h => h.elim)
    have hne2 : ∀ k, F k → k ≠ w.heap.size + 1 := fun k hk => by have := HF.out k hk; omega
    refine ⟨zCs, rfl, zCs_M _ _ _, ⟨v, ?_, hFg, hbg, ?_⟩, hf2.trans h3 (fun i hi => .inr (by omega))⟩
    · exact (h2 _ (hne2 g hFg)).trans ((HB2.out.block g (blk_lt HB1.out)).trans HB1.out)
    · exact Kd.R_step (Kd.R_below HR1.out HB2.out) (fun k hk _ => h2 _ (hne2 k hk.1))

end Go.Proofs.Ytphbpcmncelkhaa.Sess
