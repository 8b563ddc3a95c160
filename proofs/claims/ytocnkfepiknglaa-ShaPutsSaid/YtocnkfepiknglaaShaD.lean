/- The reference's add: a bit more. -/
import Derived.Test.YtocnkfepiknglaaPAllx0
namespace Go.Proofs.Ytocnkfepiknglaa.PAll
open Go.RowKit Go.Proofs.YtocnkfepiknglaaW.PrintWords Go.Proofs.YtocnkfepiknglaaW.PrintLast Go.Proofs.YtocnkfepiknglaaW.PrintMore
attribute [local go_sem] max2_int min2_int max_two min_two max_three min_three max_four min_four   -- for this text's walks alone
set_option linter.unusedVariables false
set_option linter.unusedSimpArgs false

/-- add's row ahead of its last step: a, and noughts behind it. -/
def addL (a : List Int) (m : Nat) : List Int := a ++ List.replicate (m - a.length) 0
/-! ### latchkeyref03_add: function 27 -/
def latchkeyref03_add.f (l0 : List Int) (a1 : Int) : Option (List Int) :=
  if 0 ≤ a1 ∧ a1 ≤ 1000 ∧ l0.length ≤ 1000 then some ((addL l0 (max l0.length ((a1 / 16).toNat + 1))).set (a1 / 16).toNat (wrap64 (rd (addL l0 (max l0.length ((a1 / 16).toNat + 1))) (a1 / 16) + wrap64 (2 ^ (a1.tmod 16).toNat)))) else none
set_option maxHeartbeats 8000000 in
set_option maxRecDepth 100000 in
theorem latchkeyref03_add.calls (A0 : Option Addr) (c0 : Nat) (l0 : List Int) (a1 : Int) (r : List Int) (w : World) (hr0 : Kd.C (Kd.int .i64) w A0 l0.length l0) (hc0 : l0.length ≤ c0) (h : latchkeyref03_add.f l0 a1 = some r) :
    Calls Try.prog 27 #[.slice A0 l0.length c0, .int .i64 a1] w fun e w' => ∃ v0_ : Value, e = .returned (v0_) ∧ Kd.R (Kd.int .i64) 3 w' w.heap.size (fun _ => True) v0_ r ∧ Below w.heap.size w w' := by
  unfold latchkeyref03_add.f at h
  by_cases hg : 0 ≤ a1 ∧ a1 ≤ 1000 ∧ l0.length ≤ 1000
  · rw [if_pos hg] at h
    obtain ⟨h0, h1, h2⟩ := hg
    have HR0 := Aside0.mk hr0
    obtain ⟨q, hq, hq0, hq1⟩ : ∃ q : Nat, a1 / 16 = (q : Int) ∧ (q : Int) ≤ 62 ∧ 0 ≤ q := ⟨(a1 / 16).toNat, by omega, by omega, by omega⟩
    obtain ⟨m, hm, hm1, hm2, hm3, hm4⟩ : ∃ m : Nat, max l0.length ((a1 / 16).toNat + 1) = m ∧ (if (l0.length : Int) < (q : Int) + 1 then (q : Int) + 1 else (l0.length : Int)) = (m : Int) ∧ l0.length ≤ m ∧ q < m ∧ m ≤ 1000 :=
      ⟨_, rfl, by split <;> omega, by omega, by omega, by omega⟩
    rw [hm] at h
    have hqn : (a1 / 16).toNat = q := by omega
    rw [hqn, hq] at h
    have HH := Aside0.mk h
    have hlen : (addL l0 m).length = m := by unfold addL; rw [List.length_append, List.length_replicate]; omega
    have HLEN := Aside0.mk hlen
    clear h hr0 hm hlen
    have hmz : 0 ≤ (m : Int) := by omega
    go_enter Try.func27, Try.ntmps27
    go_wp2_with (first | ((with_reducible refine gate_dst (N := 12) rfl ?_); refine Kd.R_make (Kd.int .i64) _ 3 rfl (N := 12) rfl 51 _ _ rfl (m : Int) rfl rfl Try.underlying51 (.int .i64 0) 8 info3 rfl (by decide) (by omega) 0 (ok := fun _ => True) (okp := fun _ => True) rfl (fun _ hk => hk) trivial (by omega) (by omega) (Below.refl _ _) (Nat.le_refl _) ?_; intro v1 w1 ho hb hg_ hnew_; clear hg_ hnew_; rw [Int.toNat_natCast] at ho; have HO := Aside0.mk ho; have HB := Aside0.mk hb; clear ho hb) | ((with_reducible refine gate_dst (N := 15) rfl ?_); refine Kd.R_copy (0 : Int) (w0 := w) w.heap.size rfl (.tmp 13) (.tmp 14) 51 51 3 rfl Try.underlying51 (by kernel_rfl) v1 (List.replicate m (0 : Int)) l0 A0 l0.length c0 (fun _ => True) rfl rfl HO.out (Kd.C_below HR0.out HB.out) HB.out HB.out.size ?_; intro w2 ho2 hb2 hg2; have HO2 := Aside0.mk ho2; have HB2 := Aside0.mk hb2; clear ho2 hb2 hg2))
    have hO3 : Kd.R (Kd.int .i64) 3 w2 w.heap.size (fun _ => True) v1 (addL l0 m) := by
      have h := HO2.out
      rw [List.length_replicate, Nat.min_eq_left hm2, List.take_length, List.drop_replicate] at h
      exact h
    obtain ⟨gb, cb, rfl, hgb1, hgb2, cells, hcells⟩ := Kd.R_form hO3 (by have := HLEN.out; omega)
    obtain ⟨hc1, hc2⟩ := Kd.R_celln (0 : Int) hO3 (q : Int) (by omega) (by have := HLEN.out; omega)
    rw [Int.toNat_natCast] at hc1 hc2
    have HO3 := Aside0.mk hO3
    have HCE := Aside0.mk hcells
    clear hO3 hcells
    obtain ⟨y, hy⟩ : ∃ y, y = rdOf (0 : Int) (addL l0 m) (q : Int) := ⟨_, rfl⟩
    rw [← hy] at hc1
    have HY := Aside0.mk hy
    clear hy
    have hlm := HLEN.out
    rw [hlm]
    have hqm : (q : Int) < (m : Int) := by omega
    have htd : a1.tdiv 16 = (q : Int) := by rw [Int.tdiv_eq_ediv_of_nonneg h0]; exact hq
    have hwq : IntKind.i64.wrap (q : Int) = (q : Int) := by rw [IntKind.wrap_i64]; omega
    obtain ⟨t, ht, ht0, ht1⟩ : ∃ t, a1.tmod 16 = t ∧ 0 ≤ t ∧ t < 16 := ⟨_, rfl, by rw [Int.tmod_eq_emod_of_nonneg h0]; omega, by rw [Int.tmod_eq_emod_of_nonneg h0]; omega⟩
    have hwt : IntKind.i64.wrap t = t := by rw [IntKind.wrap_i64]; omega
    simp only [Act.put, List.setIfInBounds_toArray, List.set_cons_succ, List.set_cons_zero]
    go_region
    go_wp2
    go_ret
    have h := HH.out
    rw [ht] at h
    obtain rfl := Option.some.inj h
    have hp := (Kd.R_putg HO3.out (q : Int) (wrap64 (y + wrap64 (2 ^ t.toNat)))).1
    rw [Int.toNat_natCast, hlm, HY.out] at hp
    rw [HY.out]
    exact ⟨_, rfl, Kd.R_drew hp, below_drew (below_set HB2.out hgb1)⟩
  · rw [if_neg hg] at h
    cases h

/-! ### latchkeyref03_shifted: function 30 -/
def latchkeyref03_shifted.f (a0 : Int) (a1 : Int) : Option (List Int) := if 0 ≤ a1 ∧ a1 ≤ 1000 then some ((List.replicate ((a1 / 16).toNat + 1) 0).set (a1 / 16).toNat a0) else none
set_option maxHeartbeats 8000000 in
set_option maxRecDepth 100000 in
theorem latchkeyref03_shifted.calls (a0 : Int) (a1 : Int) (r : List Int) (w : World) (h : latchkeyref03_shifted.f a0 a1 = some r) :
    Calls Try.prog 30 #[.int .i64 a0, .int .i64 a1] w fun e w' => ∃ v0_ : Value, e = .returned (v0_) ∧ Kd.R (Kd.int .i64) 3 w' w.heap.size (fun _ => True) v0_ r ∧ Below w.heap.size w w' := by
  unfold latchkeyref03_shifted.f at h
  by_cases hg : 0 ≤ a1 ∧ a1 ≤ 1000
  · rw [if_pos hg] at h
    obtain ⟨h0, h1⟩ := hg
    obtain ⟨q, hq, hq0, hq1⟩ : ∃ q : Nat, a1 / 16 = (q : Int) ∧ (q : Int) ≤ 62 ∧ 0 ≤ q := ⟨(a1 / 16).toNat, by omega, by omega, by omega⟩
    have hqn : (a1 / 16).toNat = q := by omega
    rw [hqn] at h
    have HH := Aside0.mk h
    clear h
    go_enter Try.func30, Try.ntmps30
    go_wp2_with (first | ((with_reducible refine gate_dst (N := 9) rfl ?_); refine Kd.R_make (Kd.int .i64) _ 3 rfl (N := 9) rfl 51 _ _ rfl ((q : Int) + 1) rfl rfl Try.underlying51 (.int .i64 0) 8 info3 rfl (by decide) (by omega) 0 (ok := fun _ => True) (okp := fun _ => True) rfl (fun _ hk => hk) trivial (by omega) (by omega) (Below.refl _ _) (Nat.le_refl _) ?_; intro v1 w1 ho hb hg_ hnew_; clear hg_ hnew_; rw [show ((q : Int) + 1).toNat = q + 1 from (by omega)] at ho; have HB := Aside0.mk hb; obtain ⟨gb, cb, rfl, hgb1, hgb2, cells, hcells⟩ := Kd.R_form ho (by simp); obtain ⟨hc1, hc2⟩ := Kd.R_celln (0 : Int) ho (q : Int) (by omega) (by rw [List.length_replicate]; omega); rw [Int.toNat_natCast] at hc1 hc2; rw [List.length_replicate]; have hql : (q : Int) < ((q + 1 : Nat) : Int) := (by omega); have HO := Aside0.mk ho; clear ho hb hcells))
    go_ret
    obtain rfl := Option.some.inj HH.out
    have hp := (Kd.R_putg HO.out (q : Int) a0).1
    rw [Int.toNat_natCast, List.length_replicate] at hp
    exact ⟨_, rfl, hp, below_set HB.out hgb1⟩
  · rw [if_neg hg] at h
    cases h

end Go.Proofs.Ytocnkfepiknglaa.PAll
