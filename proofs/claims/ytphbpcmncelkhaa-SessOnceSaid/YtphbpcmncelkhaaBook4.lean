/- A row of sessions as cells, and as the kit's word on owned rows: from one to the other. slices.Clone at bytes; ends; sweep. -/
import Derived.Test.YtphbpcmncelkhaaBook3
import Derived.WalkSpells
set_option linter.unusedVariables false
set_option linter.unusedSimpArgs false
namespace Go.Proofs.Ytphbpcmncelkhaa.Sess
open Go.RowKit Go.Shelf Go.Proofs.YtphbpcmncelkhaaW.PrintWords Go.Proofs.YtphbpcmncelkhaaW.PrintLast Go.Proofs.YtphbpcmncelkhaaW.PrintMore
open Go.Proofs.Ytphbpcmncelkhaa.PSessPlays

/-- The cells x hold the session y, its draw in a row of the blocks ok. -/
def SessM (w : World) (base : Nat) (ok : Nat → Prop) (x : Cs) (y : S34) : Prop :=
  x.h = y.f0 ∧ x.u = y.f1 ∧ x.e = y.f3 ∧ x.r = y.f4 ∧ x.a = y.f5 ∧ x.dn = y.f2.length ∧ (Kd.int .u8).R 5 w base ok (.slice x.dA x.dn x.dc) y.f2
theorem SessM.M {w : World} {base : Nat} {ok : Nat → Prop} {x : Cs} {y : S34} (h : SessM w base ok x y) : k34.M w base ok y x.cells := by
  obtain ⟨h0, h1, h3, h4, h5, h6, h7⟩ := h
  unfold Cs.cells
  rw [h0, h1, h3, h4, h5]
  exact k34_mkM w base ok y h7
theorem SessM.of {w : World} {base : Nat} {ok : Nat → Prop} {y : S34} {cs : List Value} (h : k34.M w base ok y cs) : ∃ x : Cs, cs = x.cells ∧ SessM w base ok x y := by
  obtain ⟨v2, rfl, h2⟩ := k34_openM h
  obtain ⟨A, c, rfl⟩ := Kd.R_slice h2
  exact ⟨⟨y.f0, y.f3, y.f1, A, y.f2.length, c, y.f4, y.f5⟩, rfl, rfl, rfl, rfl, rfl, rfl, rfl, h2⟩
theorem SessM.step {w w' : World} {base : Nat} {ok : Nat → Prop} {x : Cs} {y : S34} (h : SessM w base ok x y) (hm : ∀ k, ok k → k < w.heap.size → w'.heap[k]? = w.heap[k]?) : SessM w' base ok x y := by
  obtain ⟨h0, h1, h3, h4, h5, h6, h7⟩ := h
  exact ⟨h0, h1, h3, h4, h5, h6, Kd.R_step h7 hm⟩
theorem SessM.mono {w : World} {base : Nat} {ok ok' : Nat → Prop} {x : Cs} {y : S34} (h : SessM w base ok x y) (hm : ∀ k, ok k → ok' k) : SessM w base ok' x y := by
  obtain ⟨h0, h1, h3, h4, h5, h6, h7⟩ := h
  exact ⟨h0, h1, h3, h4, h5, h6, Kd.R_mono h7 hm⟩

theorem row_of_R {w : World} {base : Nat} {ok : Nat → Prop} {v : Value} {xs : List S34} (h : k34.R 34 w base ok v xs) :
    (v = .slice none 0 0 ∧ xs = []) ∨ ∃ g cap f, v = .slice (some ⟨g, 0, none⟩) xs.length cap ∧ RowF w g cap xs.length f ∧ cap ≤ maxLen ∧ base ≤ g ∧ ok g ∧ ∀ j y, xs[j]? = some y → SessM w base (fun k => ok k ∧ k ≠ g) (f j) y := by
  obtain ⟨h0, inner, ho, hr⟩ := h
  rcases ho.2 with ⟨hv, hn⟩ | ⟨g, cap, cur, hv, hb, hh, hnc, hcm, hcs, htk⟩
  · exact .inl ⟨hv, List.eq_nil_of_length_eq_zero hn⟩
  · right
    subst hv
    have hcs' : cur.size = cap * 6 := hcs
    have htk' : cur.toList.take (xs.length * 6) = inner := htk
    have hex : ∀ j, ∃ x : Cs, ∀ y, xs[j]? = some y → (inner.drop (j * 6)).take 6 = x.cells ∧ SessM w base (fun k => ok k ∧ k ≠ g) x y := by
      intro j
      cases hj : xs[j]? with
      | none => exact ⟨zCs, fun y hy => by cases hy⟩
      | some y0 =>
        obtain ⟨x, hx, hM⟩ := SessM.of (hr.2 j y0 hj)
        refine ⟨x, fun y hy => ?_⟩
        obtain rfl := Option.some.inj hy
        exact ⟨hx, hM.mono (fun k hk => ⟨hk.1, fun e => hk.2 (by simp [Value.ownBlock, e])⟩)⟩
    refine ⟨g, cap, fun j => (hex j).choose, rfl, ⟨cur, hh, hcs', hnc, fun j hj => ?_⟩, hcm, hb, h0 g (by simp [Value.ownBlock]), fun j y hy => ((hex j).choose_spec y hy).2⟩
    have hc := ((hex j).choose_spec _ (List.getElem?_eq_getElem hj)).1
    have hget : ∀ q, q < 6 → cur[j * 6 + q]? = ((hex j).choose.cells)[q]? := by
      intro q hq
      rw [← hc, List.getElem?_take, if_pos hq, List.getElem?_drop, ← htk', List.getElem?_take, if_pos (by omega), Array.getElem?_toList]
    exact ⟨hget 0 (by decide), hget 1 (by decide), hget 2 (by decide), hget 3 (by decide), hget 4 (by decide), hget 5 (by decide)⟩

theorem R_of_row {w : World} {base g cap : Nat} {ok : Nat → Prop} {f : Nat → Cs} {xs : List S34} (h : RowF w g cap xs.length f) (hcm : cap ≤ maxLen) (hb : base ≤ g) (hg : ok g)
    (hM : ∀ j y, xs[j]? = some y → SessM w base (fun k => ok k ∧ k ≠ g) (f j) y) : k34.R 34 w base ok (.slice (some ⟨g, 0, none⟩) xs.length cap) xs := by
  obtain ⟨cur, h1, h2, h3, h4⟩ := h
  have hlen : (cur.toList.take (xs.length * 6)).length = xs.length * 6 := by
    rw [List.length_take]
    have : cur.toList.length = cur.size := Array.length_toList
    omega
  refine ⟨fun k hk => by have : g = k := by simpa [Value.ownBlock] using hk
                         subst this; exact hg, cur.toList.take (xs.length * 6), ⟨hlen, .inr ⟨g, cap, cur, rfl, hb, h1, h3, hcm, h2, rfl⟩⟩, hlen, fun j y hy => ?_⟩
  have hj : j < xs.length := (List.getElem?_eq_some_iff.1 hy).1
  have he : ((cur.toList.take (xs.length * 6)).drop (j * 6)).take 6 = (f j).cells := by
    obtain ⟨c0, c1, c2, c3, c4, c5⟩ := h4 j hj
    have hget : ∀ q, q < 6 → (((cur.toList.take (xs.length * 6)).drop (j * 6)).take 6)[q]? = cur[j * 6 + q]? := by
      intro q hq
      rw [List.getElem?_take, if_pos hq, List.getElem?_drop, List.getElem?_take, if_pos (by omega), Array.getElem?_toList]
    apply List.ext_getElem?
    intro q
    by_cases hq : q < 6
    · rw [hget q hq]
      have : q = 0 ∨ q = 1 ∨ q = 2 ∨ q = 3 ∨ q = 4 ∨ q = 5 := by omega
      rcases this with rfl | rfl | rfl | rfl | rfl | rfl
      · exact c0
      · exact c1
      · exact c2
      · exact c3
      · exact c4
      · exact c5
    · rw [List.getElem?_eq_none (by rw [List.length_take]; omega), List.getElem?_eq_none (by show 6 ≤ q; omega)]
  have := (hM j y hy).M
  show k34.M w base _ y (((cur.toList.take (xs.length * 6)).drop (j * 6)).take 6)
  rw [he]
  exact k34.M_mono (fun k hk => ⟨hk.1, fun e => hk.2 (by simpa [Value.ownBlock] using e)⟩) this

/-! ### slices.Clone at bytes, ends -/
set_option maxHeartbeats 4000000 in
theorem clone_calls (ad : Addr) (c : Nat) (x : List Int) (w : World) (hC : Kd.C (Kd.int .u8) w (some ad) x.length x) (hx : x.length ≤ 1000000) :
    Calls Try.prog 22 #[.slice (some ad) x.length c] w fun e w' => ∃ v, e = .returned v ∧ (Kd.int .u8).R 5 w' w.heap.size (fun _ => True) v x ∧ Below w.heap.size w w' := by
  have hq : ∀ W : World, (binOp .eql 22 (.slice (some ad) x.length c) (.slice none 0 0)).run Try.prog W = .ok (.bool false) W := fun W => Lib.run_eql_slice_nil W 22 5 _ _ _ _ _ Try.underlying22
  have HC := Aside0.mk hC
  clear hC
  go_enter Try.func22, Try.ntmps22
  go_wp2_with (first | ((with_reducible refine gate_dst (N := 5) rfl ?_); refine Kd.R_lit (Kd.int .u8) _ 5 ?hg (N := 5) ?hd (xs := ([] : List Int)) (inner := []) (ok := fun _ => True) (okp := fun _ => True) ?hr ?hp (fun _ hk => hk) trivial (Below.refl _ _) (Nat.le_refl _) (by simp) ?_; (case hd => rfl); (case hg => rfl); (case hr => first | (go_simp; done) | (go_simp; rfl)); (case hp => exact (Reps.none _ _)); intro v1 w1 ho1 hb1 hg_ hnew_; clear hg_ hnew_; have HO := Aside0.mk ho1; have HB := Aside0.mk hb1; clear ho1 hb1) | ((with_reducible refine gate_builtin (b := .append) (xs := #[.tmp 5, .tmp 6]) rfl ?_); at_builtin; refine Kd.R_append_rows (Kd.int .u8) (w0 := w) w.heap.size rfl (.tmp 5) (.tmp 6) 22 5 (.int .u8 0) 1 rfl Try.underlying22 info5 rfl (by decide) (by omega) v1 [] x _ _ _ (fun _ => True) (fun _ => False) rfl rfl ?aO ?aR (fun _ _ h => h) (fun _ h => h.elim) ?aF ?aB ?aS ?aL ?_; (case aR => exact Kd.C_below HC.out HB.out); (case aB => exact HB.out); (case aF => exact fun _ _ => trivial); (case aO => exact HO.out); (case aS => exact HB.out.size); (case aL => simp; omega); intro v2 w2 ho hb hg hat; rw [List.nil_append] at ho; have HO2 := Aside0.mk ho; have HB2 := Aside0.mk hb; clear ho hb hg hat HO HB))
  go_ret
  exact ⟨_, rfl, HO2.out, HB2.out⟩

theorem ends_calls (g : Nat) (room life last now : Int) (v : Value) (w : World) (hg : w.heap[g]? = some (.cells #[.int .i64 room, .int .u64 life, .int .u64 last, v] 58 (0, 0))) :
    Calls Try.prog 23 #[.pointer (some ⟨g, 0, none⟩), .int .u64 now] w fun e w' => e = .returned (.int .u64 (if now ≤ IntKind.u64.wrap (now + life) then IntKind.u64.wrap (now + life) else 18446744073709551615)) ∧ w' = w := by
  have hc : w.cell? ⟨g, 1, none⟩ = some (.int .u64 life) := (blk_cell hg 1).trans rfl
  by_cases h : now ≤ IntKind.u64.wrap (now + life)
  · have hb : decide (now ≤ IntKind.u64.wrap (now + life)) = true := decide_eq_true h
    rw [if_pos h]
    clear hg
    go_enter Try.func23, Try.ntmps23
    go_wp2
    go_ret
    exact ⟨rfl, rfl⟩
  · have hb : decide (now ≤ IntKind.u64.wrap (now + life)) = false := decide_eq_false h
    rw [if_neg h]
    clear hg
    go_enter Try.func23, Try.ntmps23
    go_wp2
    go_ret
    exact ⟨rfl, rfl⟩

end Go.Proofs.Ytphbpcmncelkhaa.Sess
