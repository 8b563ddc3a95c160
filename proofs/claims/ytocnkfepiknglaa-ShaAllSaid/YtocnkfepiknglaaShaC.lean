/- The fractions of the roots: what sha.roots comes to. sha.roots. sha.New. -/
import Derived.Test.YtocnkfepiknglaaShaB
namespace Go.Proofs.Ytocnkfepiknglaa.PAll
open Go.RowKit Go.Proofs.YtocnkfepiknglaaW.PrintWords Go.Proofs.YtocnkfepiknglaaW.PrintLast Go.Proofs.YtocnkfepiknglaaW.PrintMore
set_option linter.unusedVariables false
set_option linter.unusedSimpArgs false

/-- Has p no divisor from d on, up to its root? -/
def noDiv : Nat → Int → Int → Option Bool
  | 0, _, _ => none
  | k + 1, p, d => if 0 < d ∧ d ≤ 1000 then (if d * d ≤ p then (if p % d = 0 then some false else noDiv k p (d + 1)) else some true) else none
def sha_roots.l0 : Nat → Bool → Int → List Int → Int → Option (List Int)
  | 0, _, _, _, _ => none
  | k + 1, third, n, out, p => if (out.length : Int) < n then (if 0 ≤ p ∧ p ≤ 1000 ∧ out.length ≤ 1000 then ((noDiv 100 p 2).bind fun b => if b = true then ((sha_fraction.f 42 p third).bind fun x => sha_roots.l0 k third n (out ++ [x]) (p + 1)) else sha_roots.l0 k third n out (p + 1)) else none) else some out
def sha_roots.f (third : Bool) (n : Int) : Option (List Int) := sha_roots.l0 1000 third n [] 2

def rootsH : List Int := [1779033703, 3144134277, 1013904242, 2773480762, 1359893119, 2600822924, 528734635, 1541459225]
theorem rootsH_ok : sha_roots.f false 8 = some rootsH := by decide +kernel
def rootsK : List Int := [1116352408, 1899447441, 3049323471, 3921009573, 961987163, 1508970993, 2453635748, 2870763221, 3624381080, 310598401, 607225278, 1426881987, 1925078388, 2162078206, 2614888103, 3248222580, 3835390401, 4022224774, 264347078, 604807628, 770255983, 1249150122, 1555081692, 1996064986, 2554220882, 2821834349, 2952996808, 3210313671, 3336571891, 3584528711, 113926993, 338241895, 666307205, 773529912, 1294757372, 1396182291, 1695183700, 1986661051, 2177026350, 2456956037, 2730485921, 2820302411, 3259730800, 3345764771, 3516065817, 3600352804, 4094571909, 275423344, 430227734, 506948616, 659060556, 883997877, 958139571, 1322822218, 1537002063, 1747873779, 1955562222, 2024104815, 2227730452, 2361852424, 2428436474, 2756734187, 3204031479, 3329325298]
theorem rootsK_ok : sha_roots.f true 64 = some rootsK := by decide +kernel

end Go.Proofs.Ytocnkfepiknglaa.PAll
namespace Go.Proofs.Ytocnkfepiknglaa.PAll
open Go.RowKit Go.Proofs.YtocnkfepiknglaaW.PrintWords Go.Proofs.YtocnkfepiknglaaW.PrintLast Go.Proofs.YtocnkfepiknglaaW.PrintMore
set_option linter.unusedVariables false
set_option linter.unusedSimpArgs false

set_option maxHeartbeats 8000000 in
set_option maxRecDepth 100000 in
theorem sha_roots.calls (third : Bool) (n : Int) (r : List Int) (w : World) (h : sha_roots.f third n = some r) :
    Calls Try.prog 19 #[.bool third, .int .i64 n] w fun e w' => ∃ v, e = .returned v ∧ Kd.R (Kd.int .u32) 43 w' w.heap.size (fun _ => True) v r ∧ Below w.heap.size w w' := by
  have H := Aside0.mk h
  clear h
  go_enter Try.func19, Try.ntmps19
  go_wp2
  go_step3
  go_wp2
  go_step3
  go_wp2
  go_loopg [5, 6] 1000 (fun kq s5 s6 wr => ∃ (out : List Int) (p : Int), s6 = .int .u64 p ∧ Aside0 (sha_roots.l0 kq third n out p = some r) ∧ Aside0 (Kd.R (Kd.int .u32) 43 wr w.heap.size (fun _ => True) s5 out) ∧ Aside0 (Below w.heap.size w wr))
  case atStart => exact ⟨[], 2, rfl, H, ⟨Kd.R_nil _ _ _ _ _⟩, ⟨Below.refl _ _⟩⟩
  case round =>
    clear H
    obtain ⟨out, p, rfl, HA, HO, HB⟩ := hrel
    obtain ⟨A, c, rfl⟩ := Kd.R_slice HO.out
    cases gk with
    | zero => exact absurd HA.out (by simp [sha_roots.l0])
    | succ k1 =>
      have H := HA.out
      clear HA
      simp only [sha_roots.l0] at H
      by_cases h1 : (out.length : Int) < n
      · rw [if_pos h1] at H
        have h1b : decide ((out.length : Int) < n) = true := decide_eq_true h1
        by_cases h2 : 0 ≤ p ∧ p ≤ 1000 ∧ out.length ≤ 1000
        · rw [if_pos h2] at H
          obtain ⟨hp0, hp1, hol⟩ := h2
          cases hb : noDiv 100 p 2 with
          | none => rw [hb] at H; exact absurd H (by simp)
          | some b =>
            rw [hb, Option.bind_some] at H
            have HN := Aside0.mk hb
            have HH := Aside0.mk H
            clear hb H
            go_wp2
            go_loopg [7] 100 (fun kq s7 wi => ∃ d, s7 = .int .u64 d ∧ Aside0 (noDiv kq p d = some b) ∧ wi = wr)
            case atStart => exact ⟨2, rfl, HN, rfl⟩
            case round =>
              clear HN
              obtain ⟨d, rfl, HD, rfl⟩ := hrel
              cases gk with
              | zero => exact absurd HD.out (by simp [noDiv])
              | succ k2 =>
                have H := HD.out
                clear HD
                simp only [noDiv] at H
                by_cases h3 : 0 < d ∧ d ≤ 1000
                · rw [if_pos h3] at H
                  obtain ⟨hd0, hd1⟩ := h3
                  have hdd0 : 0 ≤ d * d := Int.mul_nonneg (by omega) (by omega)
                  have hdd1 : d * d ≤ 1000000 := Int.mul_le_mul hd1 hd1 (by omega) (by omega)
                  have hdw : IntKind.u64.wrap (d * d) = d * d := by rw [IntKind.wrap_u64]; omega
                  by_cases h4 : d * d ≤ p
                  · rw [if_pos h4] at H
                    have h4b : decide (d * d ≤ p) = true := decide_eq_true h4
                    by_cases h5 : p % d = 0
                    · rw [if_pos h5] at H
                      obtain rfl := Option.some.inj H
                      clear H
                      go_wp2
                      go_roundg k1
                      case measure => omega
                      case rel => exact ⟨out, p + 1, rfl, ⟨by have := HH.out; rwa [if_neg (by decide)] at this⟩, HO, HB⟩
                    · rw [if_neg h5] at H
                      have h5b : (p % d == 0) = false := by simp [h5]
                      have HN2 := Aside0.mk H
                      clear H
                      go_wp2
                      go_roundg k2
                      case measure => omega
                      case rel => exact ⟨d + 1, by go_num, HN2, rfl⟩
                  · rw [if_neg h4] at H
                    have h4b : decide (d * d ≤ p) = false := decide_eq_false h4
                    obtain rfl := Option.some.inj H
                    clear H
                    have H := HH.out
                    rw [if_pos rfl] at H
                    clear HH
                    cases hx : sha_fraction.f 42 p third with
                    | none => rw [hx] at H; exact absurd H (by simp)
                    | some x =>
                      rw [hx, Option.bind_some] at H
                      have HX := Aside0.mk hx
                      have HH := Aside0.mk H
                      clear hx H
                      go_wp2_with (first | (go_at_call 25; refine (sha_fraction.calls 42 p third x wr HX.out).mono ?_; rintro e w4 ⟨rfl, hd⟩; have HO4 := Aside0.mk (Kd.R_below HO.out hd.below); have HB4 := Aside0.mk (HB.out.trans (hd.below.mono HB.out.size)); clear hd) | ((with_reducible refine gate_builtin (b := .append) (xs := #[.tmp 25, .tmp 29]) rfl ?_); at_builtin; refine Kd.R_append (Kd.int .u32) (w0 := w) w.heap.size rfl (.tmp 25) (.tmp 29) 39 43 (.int .u32 0) 4 rfl Try.underlying39 info43 rfl (by decide) (by omega) (.slice A out.length c) out x [.int .u32 x] (fun _ => True) (fun _ => False) rfl rfl ?aP (fun _ hk => hk.elim) ?aF ?aO ?aB ?aS ?aL ?_; (case aP => exact rfl); (case aB => exact (by repeat (first | (with_reducible first | exact HB4.out | apply below_alloc | apply pw_below_drewN | apply below_drew1) | exact HB4.out))); (case aF => exact (fun _ _ => trivial)); (case aO => exact (by (with_reducible repeat (first | apply Kd.R_alloc | apply Kd.R_drewN | apply Kd.R_drew)); exact HO4.out)); (case aS => exact (below_size (by repeat (first | (with_reducible first | exact HB4.out | apply below_alloc | apply pw_below_drewN | apply below_drew1) | exact HB4.out)))); (case aL => omega); intro v5 w5 ho hb hg hat; have HO5 := Aside0.mk ho; have HB5 := Aside0.mk hb; clear ho hb hg hat))
                      go_roundg k1
                      case measure => omega
                      case rel => exact ⟨out ++ [x], p + 1, rfl, HH, HO5, HB5⟩
                · rw [if_neg h3] at H; exact absurd H (by simp)
        · rw [if_neg h2] at H; exact absurd H (by simp)
      · rw [if_neg h1] at H
        have h1b : decide ((out.length : Int) < n) = false := decide_eq_false h1
        obtain rfl := Option.some.inj H
        clear H
        go_wp2
        go_ret
        exact ⟨_, rfl, HO.out, HB.out⟩

end Go.Proofs.Ytocnkfepiknglaa.PAll
namespace Go.Proofs.Ytocnkfepiknglaa.PAll
open Go.RowKit Go.Proofs.YtocnkfepiknglaaW.PrintWords Go.Proofs.YtocnkfepiknglaaW.PrintLast Go.Proofs.YtocnkfepiknglaaW.PrintMore
set_option linter.unusedVariables false
set_option linter.unusedSimpArgs false

theorem rowcells {w : World} {base : Nat} {ok : Nat → Prop} {v : Value} {xs : List Int} (h : Kd.R (Kd.int .u32) 43 w base ok v xs) (hp : 0 < xs.length) :
    ∃ g c, v = .slice (some ⟨g, 0, none⟩) xs.length c ∧ base ≤ g ∧ g < w.heap.size ∧ ok g ∧ ∀ i, i < xs.length → w.cell? ⟨g, i, none⟩ = some (.int .u32 (rd xs i)) := by
  obtain ⟨g, c, rfl, h1, h2, cells, h3⟩ := Kd.R_form h hp
  refine ⟨g, c, rfl, h1, h2, h.1 g rfl, fun i hi => ?_⟩
  have := (Kd.R_celln (0 : Int) h (i : Int) (by omega) (by omega)).1
  rw [Int.toNat_natCast] at this
  exact this

theorem only_block {w : World} {base t n c : Nat} {ok : Nat → Prop} {K : IntKind} {e : TypeId} {xs : List Int} (h : Kd.R (Kd.int K) e w base ok (.slice (some ⟨t, 0, none⟩) n c) xs) : Kd.R (Kd.int K) e w base (fun k => k = t) (.slice (some ⟨t, 0, none⟩) n c) xs :=
  ⟨fun k hk => by simp [Value.ownBlock] at hk; exact hk.symm, h.2⟩
theorem rowsK {w : World} {base : Nat} {ok : Nat → Prop} {v : Value} (h : Kd.R (Kd.int .u32) 43 w base ok v rootsK) :
    ∃ t c, v = .slice (some ⟨t, 0, none⟩) 64 c ∧ base ≤ t ∧ t < w.heap.size := by
  obtain ⟨g, c, hv, h1, h2, _, hc⟩ := rowcells h (by decide)
  exact ⟨g, c, hv, h1, h2⟩

theorem rowsH {w : World} {base : Nat} {ok : Nat → Prop} {v : Value} (h : Kd.R (Kd.int .u32) 43 w base ok v rootsH) :
    ∃ g1 c, v = .slice (some ⟨g1, 0, none⟩) 8 c ∧ base ≤ g1 ∧ g1 < w.heap.size ∧ w.cell? ⟨g1, 0, none⟩ = some (.int .u32 1779033703) ∧ w.cell? ⟨g1, 1, none⟩ = some (.int .u32 3144134277) ∧ w.cell? ⟨g1, 2, none⟩ = some (.int .u32 1013904242) ∧ w.cell? ⟨g1, 3, none⟩ = some (.int .u32 2773480762) ∧ w.cell? ⟨g1, 4, none⟩ = some (.int .u32 1359893119) ∧ w.cell? ⟨g1, 5, none⟩ = some (.int .u32 2600822924) ∧ w.cell? ⟨g1, 6, none⟩ = some (.int .u32 528734635) ∧ w.cell? ⟨g1, 7, none⟩ = some (.int .u32 1541459225) := by
  obtain ⟨g, c, hv, h1, h2, _, hc⟩ := rowcells h (by decide)
  exact ⟨g, c, hv, h1, h2, hc 0 (by decide), hc 1 (by decide), hc 2 (by decide), hc 3 (by decide), hc 4 (by decide), hc 5 (by decide), hc 6 (by decide), hc 7 (by decide)⟩

set_option maxHeartbeats 8000000 in
set_option maxRecDepth 100000 in
theorem new_calls (w : World) : Calls Try.prog 11 #[] w fun e w' => ∃ (g : Nat) (t : Nat) (c : Nat), e = .returned (.pointer (some ⟨g, 0, none⟩)) ∧ w.heap.size ≤ g ∧ w.heap.size ≤ t ∧ t ≠ g ∧
      w'.heap[g]? = some (.cells #[.int .u32 1779033703, .int .u32 3144134277, .int .u32 1013904242, .int .u32 2773480762, .int .u32 1359893119, .int .u32 2600822924, .int .u32 528734635, .int .u32 1541459225, .slice (some ⟨t, 0, none⟩) 64 c, .slice none 0 0, .int .u64 0] 49 (0, 0)) ∧
      Kd.R (Kd.int .u32) 43 w' w.heap.size (fun k => k = t) (.slice (some ⟨t, 0, none⟩) 64 c) rootsK ∧ Below w.heap.size w w' := by
  have hu46 := Try.underlying46
  have hu49 := Try.underlying49
  have hat : ∀ g c w, (Instr.arrayAt 46 (.slice (some ⟨g, 0, none⟩) 8 c)).run Try.prog w = .ok (.pointer (some ⟨g, 0, none⟩)) w := fun g c w => by simp [Instr.arrayAt, run_underlying Try.underlying46]
  go_enter Try.func11, Try.ntmps11
  go_upto_region 1 with (fail)
  go_region_with (first | (go_at_call 19; refine (sha_roots.calls true 64 rootsK w1 rootsK_ok).mono ?_; rintro e w2 ⟨v2, rfl, hr2, hb2⟩; obtain ⟨t2, c2, rfl, ht2, ht2l⟩ := rowsK hr2; have e0 := (hb2.cell (p := ⟨g1, 0, none⟩) hg1l).trans d0; have e1 := (hb2.cell (p := ⟨g1, 1, none⟩) hg1l).trans d1; have e2 := (hb2.cell (p := ⟨g1, 2, none⟩) hg1l).trans d2; have e3 := (hb2.cell (p := ⟨g1, 3, none⟩) hg1l).trans d3; have e4 := (hb2.cell (p := ⟨g1, 4, none⟩) hg1l).trans d4; have e5 := (hb2.cell (p := ⟨g1, 5, none⟩) hg1l).trans d5; have e6 := (hb2.cell (p := ⟨g1, 6, none⟩) hg1l).trans d6; have e7 := (hb2.cell (p := ⟨g1, 7, none⟩) hg1l).trans d7; have HR2 := Aside0.mk hr2; have HB2 := Aside0.mk hb2; clear hr2 hb2) | (go_at_call 19; refine (sha_roots.calls false 8 rootsH w.drew rootsH_ok).mono ?_; rintro e w1 ⟨v1, rfl, hr1, hb1⟩; obtain ⟨g1, c1, rfl, hg1, hg1l, d0, d1, d2, d3, d4, d5, d6, d7⟩ := rowsH hr1; have HR1 := Aside0.mk hr1; have HB1 := Aside0.mk hb1; clear hr1 hb1))
  all_goals
    go_wp2
    go_ret
    have s1 : w.heap.size ≤ w1.heap.size := HB1.out.size
    have s2 := HB2.out.size
    have hb : Below w.heap.size w w2 := (Below.trans (below_drew (Below.refl _ _)) HB1.out : Below w.heap.size w w1).trans (HB2.out.mono s1)
    exact ⟨w2.heap.size, t2, c2, rfl, Nat.le_trans s1 s2, Nat.le_trans s1 ht2, Nat.ne_of_lt ht2l, blk_new _ _, Kd.R_alloc (Kd.R_lower (only_block HR2.out) s1) _, below_alloc hb _⟩

end Go.Proofs.Ytocnkfepiknglaa.PAll
