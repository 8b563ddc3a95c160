/- sha.roots. -/
import Derived.Test.YtocnkfepiknglaaShaC0
namespace Go.Proofs.Ytocnkfepiknglaa.PAll
open Go.RowKit Go.Proofs.YtocnkfepiknglaaW.PrintWords Go.Proofs.YtocnkfepiknglaaW.PrintLast Go.Proofs.YtocnkfepiknglaaW.PrintMore
set_option linter.unusedVariables false
set_option linter.unusedSimpArgs false

set_option maxHeartbeats 8000000 in
set_option maxRecDepth 100000 in
theorem sha_roots.calls (third : Bool) (n : Int) (r : List Int) (w : World) (h : sha_roots.f third n = some r) :
    Calls Try.prog 19 #[.bool third, .int .i64 n] w fun e w' => ∃ v, e = .returned v ∧ Kd.R (Kd.int .u32) 43 w' w.heap.size (fun _ => True) v r ∧ Below w.heap.size w w' := by
  have H := Aside0.mk h
  clear h
  go_enter Try.func19, Try.ntmps19
  go_wp2
  go_step3
  go_wp2
  go_step3
  go_wp2
  go_loopg [5, 6] 1000 (fun kq s5 s6 wr => ∃ (out : List Int) (p : Int), s6 = .int .u64 p ∧ Aside0 (sha_roots.l0 kq third n out p = some r) ∧ Aside0 (Kd.R (Kd.int .u32) 43 wr w.heap.size (fun _ => True) s5 out) ∧ Aside0 (Below w.heap.size w wr))
  case atStart => exact ⟨[], 2, rfl, H, ⟨Kd.R_nil _ _ _ _ _⟩, ⟨Below.refl _ _⟩⟩
  case round =>
    clear H
    obtain ⟨out, p, rfl, HA, HO, HB⟩ := hrel
    obtain ⟨A, c, rfl⟩ := Kd.R_slice HO.out
    cases gk with
    | zero => exact absurd HA.out (by simp [sha_roots.l0])
    | succ k1 =>
      have H := HA.out
      clear HA
      simp only [sha_roots.l0] at H
      by_cases h1 : (out.length : Int) < n
      · rw [if_pos h1] at H
        have h1b : decide ((out.length : Int) < n) = true := decide_eq_true h1
        by_cases h2 : 0 ≤ p ∧ p ≤ 1000 ∧ out.length ≤ 1000
        · rw [if_pos h2] at H
          obtain ⟨hp0, hp1, hol⟩ := h2
          cases hb : noDiv 100 p 2 with
          | none => rw [hb] at H; exact absurd H (by simp)
          | some b =>
            rw [hb, Option.bind_some] at H
            have HN := Aside0.mk hb
            have HH := Aside0.mk H
            clear hb H
            go_wp2
            go_loopg [7] 100 (fun kq s7 wi => ∃ d, s7 = .int .u64 d ∧ Aside0 (noDiv kq p d = some b) ∧ wi = wr)
            case atStart => exact ⟨2, rfl, HN, rfl⟩
            case round =>
              clear HN
              obtain ⟨d, rfl, HD, rfl⟩ := hrel
              cases gk with
              | zero => exact absurd HD.out (by simp [noDiv])
              | succ k2 =>
                have H := HD.out
                clear HD
                simp only [noDiv] at H
                by_cases h3 : 0 < d ∧ d ≤ 1000
                · rw [if_pos h3] at H
                  obtain ⟨hd0, hd1⟩ := h3
                  have hdd0 : 0 ≤ d * d := Int.mul_nonneg (by omega) (by omega)
                  have hdd1 : d * d ≤ 1000000 := Int.mul_le_mul hd1 hd1 (by omega) (by omega)
                  have hdw : IntKind.u64.wrap (d * d) = d * d := by rw [IntKind.wrap_u64]; omega
                  by_cases h4 : d * d ≤ p
                  · rw [if_pos h4] at H
                    have h4b : decide (d * d ≤ p) = true := decide_eq_true h4
                    by_cases h5 : p % d = 0
                    · rw [if_pos h5] at H
                      obtain rfl := Option.some.inj H
                      clear H
                      go_wp2
                      go_roundg k1
                      case measure => omega
                      case rel => exact ⟨out, p + 1, rfl, ⟨by have := HH.out; rwa [if_neg (by decide)] at this⟩, HO, HB⟩
                    · rw [if_neg h5] at H
                      have h5b : (p % d == 0) = false := by simp [h5]
                      have HN2 := Aside0.mk H
                      clear H
                      go_wp2
                      go_roundg k2
                      case measure => omega
                      case rel => exact ⟨d + 1, by go_num, HN2, rfl⟩
                  · rw [if_neg h4] at H
                    have h4b : decide (d * d ≤ p) = false := decide_eq_false h4
                    obtain rfl := Option.some.inj H
                    clear H
                    have H := HH.out
                    rw [if_pos rfl] at H
                    clear HH
                    cases hx : sha_fraction.f 42 p third with
                    | none => rw [hx] at H; exact absurd H (by simp)
                    | some x =>
                      rw [hx, Option.bind_some] at H
                      have HX := Aside0.mk hx
                      have HH := Aside0.mk H
                      clear hx H
                      go_wp2_with (first | (go_at_call 25; refine (sha_fraction.calls 42 p third x wr HX.out).mono ?_; rintro e w4 ⟨rfl, hd⟩; have HO4 := Aside0.mk (Kd.R_below HO.out hd.below); have HB4 := Aside0.mk (HB.out.trans (hd.below.mono HB.out.size)); clear hd) | ((with_reducible refine gate_builtin (b := .append) (xs := #[.tmp 25, .tmp 29]) rfl ?_); at_builtin; refine Kd.R_append (Kd.int .u32) (w0 := w) w.heap.size rfl (.tmp 25) (.tmp 29) 39 43 (.int .u32 0) 4 rfl Try.underlying39 info43 rfl (by decide) (by omega) (.slice A out.length c) out x [.int .u32 x] (fun _ => True) (fun _ => False) rfl rfl ?aP (fun _ hk => hk.elim) ?aF ?aO ?aB ?aS ?aL ?_; (case aP => exact rfl); (case aB => exact (by repeat (first | (with_reducible first | exact HB4.out | apply below_alloc | apply pw_below_drewN | apply below_drew1) | exact HB4.out))); (case aF => exact (fun _ _ => trivial)); (case aO => exact (by (with_reducible repeat (first | apply Kd.R_alloc | apply Kd.R_drewN | apply Kd.R_drew)); exact HO4.out)); (case aS => exact (below_size (by repeat (first | (with_reducible first | exact HB4.out | apply below_alloc | apply pw_below_drewN | apply below_drew1) | exact HB4.out)))); (case aL => omega); intro v5 w5 ho hb hg hat; have HO5 := Aside0.mk ho; have HB5 := Aside0.mk hb; clear ho hb hg hat))
                      go_roundg k1
                      case measure => omega
                      case rel => exact ⟨out ++ [x], p + 1, rfl, HH, HO5, HB5⟩
                · rw [if_neg h3] at H; exact absurd H (by simp)
        · rw [if_neg h2] at H; exact absurd H (by simp)
      · rw [if_neg h1] at H
        have h1b : decide ((out.length : Int) < n) = false := decide_eq_false h1
        obtain rfl := Option.some.inj H
        clear H
        go_wp2
        go_ret
        exact ⟨_, rfl, HO.out, HB.out⟩

end Go.Proofs.Ytocnkfepiknglaa.PAll
