/- A hash by what was put in: New, Put, Sum, Of. -/
import Derived.Test.YtocnkfepiknglaaSum2
import Derived.Test.YtocnkfepiknglaaNew1
namespace Go.Proofs.Ytocnkfepiknglaa.PAll
open Go.RowKit Go.Proofs.YtocnkfepiknglaaW.PrintWords Go.Proofs.YtocnkfepiknglaaW.PrintLast Go.Proofs.YtocnkfepiknglaaW.PrintMore
set_option linter.unusedVariables false
set_option linter.unusedSimpArgs false

theorem absorb_rest : ∀ (n : Nat) (s : St) (xs : List Int), xs.length = n → (absorb s xs).2.length < 64 := by
  intro n
  induction n using Nat.strongRecOn with
  | ind n ih =>
    intro s xs hn
    by_cases h : 64 ≤ xs.length
    · rw [absorb_ge s xs h]
      exact ih (xs.drop 64).length (by rw [List.length_drop]; omega) _ _ rfl
    · rw [absorb_lt s xs h]
      show xs.length < 64
      omega
/-- The hash of bytes. -/
def hashL (b : List Int) : List Int := outs (absorb stH (b ++ padOf (b.length : Int))).1.list 32
/-- A hash that has been given all. -/
def HashIn (w : World) (base g : Nat) (all : List Int) : Prop := all.length ≤ 100000000 ∧ base ≤ w.heap.size ∧ ∃ t ct, HashAt w base g t ct (absorb stH all).1 (absorb stH all).2 (all.length : Int)
theorem HashIn.step {w w' : World} {base g : Nat} {all : List Int} (h : HashIn w base g all) (hb : Below w.heap.size w w') : HashIn w' base g all := by
  obtain ⟨h1, h2, t, ct, rv, hh, hq, hgb, hty, htc, hx⟩ := h
  have h3 := hb.size
  obtain ⟨cur, hcur⟩ := hty
  have ht := hb.block t (blk_lt hcur)
  exact ⟨h1, by omega, t, ct, rv, (hb.block g (blk_lt hh)).trans hh, bytes_step hq (fun k hk => hb.block k (q_lt hq k hk)), hgb, (table_kept ⟨cur, hcur⟩ htc ht).1, (table_kept ⟨cur, hcur⟩ htc ht).2, hx⟩
theorem HashIn.base_le {w : World} {base g : Nat} {all : List Int} (h : HashIn w base g all) : base ≤ g := by
  obtain ⟨_, _, t, ct, rv, _, _, hgb, _⟩ := h
  exact hgb
theorem HashIn.lt {w : World} {base g : Nat} {all : List Int} (h : HashIn w base g all) : g < w.heap.size := by
  obtain ⟨_, _, t, ct, rv, hh, _⟩ := h
  exact blk_lt hh
theorem new_in (w : World) : Calls Try.prog 11 #[] w fun e w' => ∃ g, e = .returned (.pointer (some ⟨g, 0, none⟩)) ∧ HashIn w' w.heap.size g [] ∧ Below w.heap.size w w' := by
  refine (new_hash w).mono ?_
  rintro e w' ⟨g, t, c, rfl, hh, hb⟩
  refine ⟨g, rfl, ⟨by decide, hb.size, t, c, ?_⟩, hb⟩
  rw [absorb_lt stH [] (by decide)]
  exact hh
theorem put_in {w : World} {base g : Nat} {all b : List Int} {A : Option Addr} (c : Nat) (h : HashIn w base g all) (hb : Kd.C (Kd.int .u8) w A b.length b) (hbg : ∀ a, A = some a → a.block ≠ g) (hby : ByteL b) (hl : all.length + b.length ≤ 100000000) :
    Calls Try.prog 12 #[.pointer (some ⟨g, 0, none⟩), .slice A b.length c] w fun e w' => e = .returned (.tuple #[]) ∧ HashIn w' base g (all ++ b) ∧ Below base w w' := by
  obtain ⟨h1, h2, t, ct, hh⟩ := h
  refine (put_calls base g t ct _ _ b _ A c w hh h2 (absorb_rest _ _ _ rfl) hb hbg hby (by omega) (by omega)).mono ?_
  rintro e w' ⟨rfl, hh', hb'⟩
  refine ⟨rfl, ⟨by rw [List.length_append]; exact hl, Nat.le_trans h2 hb'.size, t, ct, ?_⟩, hb'⟩
  rw [absorb_append b _ stH all rfl] at hh'
  have e : ((all.length : Int) + (b.length : Int)) % 18446744073709551616 = ((all ++ b).length : Int) := by rw [List.length_append]; push_cast; omega
  rw [e] at hh'
  exact hh'
theorem sum_in {w : World} {base g : Nat} {all : List Int} (h : HashIn w base g all) :
    Calls Try.prog 13 #[.pointer (some ⟨g, 0, none⟩)] w fun e w' => e = .returned (.agg (arr32 (hashL all))) ∧ HashIn w' base g all ∧ Below w.heap.size w w' := by
  have h0 := h
  obtain ⟨h1, h2, t, ct, hh⟩ := h
  refine (sum_calls base g t ct _ _ _ w hh (absorb_rest _ _ _ rfl) (by omega) (by omega)).mono ?_
  rintro e w' ⟨rfl, hb'⟩
  rw [absorb_append _ _ stH all rfl]
  exact ⟨rfl, h0.step hb', hb'⟩

set_option maxHeartbeats 8000000 in
set_option maxRecDepth 100000 in
theorem of_calls {w : World} {b : List Int} {A : Option Addr} (c : Nat) (hb : Kd.C (Kd.int .u8) w A b.length b) (hab : ∀ a, A = some a → a.block < w.heap.size) (hby : ByteL b) (hl : b.length ≤ 100000000) :
    Calls Try.prog 9 #[.slice A b.length c] w fun e w' => e = .returned (.agg (arr32 (hashL b))) ∧ Below w.heap.size w w' := by
  have HC := Aside0.mk hb
  have HAB := Aside0.mk hab
  clear hb hab
  go_enter Try.func9, Try.ntmps9
  go_upto_region 1 with (fail)
  obtain ⟨W, hW, h2, hb⟩ : ∃ W, W = w.alloc (.cells (arr32 zeros32) 24) ∧ W.heap[w.heap.size]? = some (.cells (arr32 zeros32) 24 (0, 0)) ∧ Below w.heap.size w W :=
    ⟨_, rfl, blk_new _ _, below_alloc (Below.refl _ _) _⟩
  have hWe : w.alloc (.cells (arr32 zeros32) 24) = W := hW.symm
  change Code.wp _ _ _ _ (w.alloc (.cells (arr32 zeros32) 24))
  rw [hWe]
  clear hW hWe
  have H2 := Aside0.mk h2
  have HB := Aside0.mk hb
  have hfl := blk_lt h2
  clear h2 hb
  go_wp2_with (first | (go_at_call 11; (with_reducible refine (new_in _).mono ?_); rintro e w1 ⟨g, rfl, hh1, hb1⟩; have HI1 := Aside0.mk hh1; have HB1 := Aside0.mk hb1; have hC1 := Kd.C_below (Kd.C_below HC.out HB.out) hb1; have hg1 := hh1.base_le; clear hb1; have hput := put_in c hh1 hC1 (fun a ha => by have := HAB.out a ha; omega) hby (by show 0 + b.length ≤ 100000000; omega); clear hh1 hC1; have HPUT := Aside0.mk hput; clear hput) | (go_at_call 12; (with_reducible refine HPUT.out.mono ?_); rintro e w2 ⟨rfl, hh2, hb2⟩; rw [List.nil_append] at hh2; have HI2 := Aside0.mk hh2; have HB2 := Aside0.mk hb2; clear hh2 hb2) | (go_at_call 13; (with_reducible refine (sum_in HI2.out).mono ?_); rintro e w3 ⟨rfl, hh3, hb3⟩; have HB3 := Aside0.mk hb3; clear hh3 hb3; have hz3 : (arr32 (hashL b)).size = 32 := arr32_size _ (outs_length _ _); have hz4 : (arr32 zeros32).size = 32 := arr32_size _ rfl; have h3 := (HB3.out.block _ (Nat.lt_of_lt_of_le hfl (Nat.le_trans HB1.out.size HB2.out.size))).trans ((HB2.out.block _ hfl).trans ((HB1.out.block _ hfl).trans H2.out)); have H3 := Aside0.mk h3; clear h3) | ((with_reducible refine gate_store (t := 24) (p := 2) rfl ?_); refine store32_at rfl (.tmp 2) (.tmp 9) rfl rfl rfl H3.out hz4 hz3 (arr32_one _) ?_))
  refine bodyPost_ret (v := .agg (arr32 (hashL b))) ?_ rfl ⟨rfl, ?_⟩
  · have hres : Try.f9.results = #[.cell 2 24] := by kernel_rfl
    have hl := run_loadVar_row (P := Try.prog) (w3.setRow w.heap.size (arr32 (hashL b))) w.heap.size 24 24 (arr32 (hashL b)) (0, 0) _ (setRow_heap H3.out) Try.underlying24 rfl (by rw [hz3]; exact size24)
    simp [results, hres, Act.put, asAddr, hl, Result.andThen]
  · have s0 := HB.out.size
    have s1 := HB1.out.size
    have s2 := HB2.out.size
    have hb := (HB.out.trans (HB1.out.mono s0)).trans ((HB2.out.mono s0).trans (HB3.out.mono (by omega)))
    exact ⟨hb.os, hb.tape, hb.output, by simpa [World.setRow] using hb.size, fun k hk => (setRow_far (by omega)).trans (hb.block k hk)⟩
end Go.Proofs.Ytocnkfepiknglaa.PAll
