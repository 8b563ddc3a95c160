/- A hash by what was put in: New, Put, Sum, Of. latchkeylaw03.Awake. Arrays of 32 bytes compared with themselves. -/
import Derived.Test.YtocnkfepiknglaaSum2
import Derived.Test.YtocnkfepiknglaaSum0
import Derived.Lib.SlBytesConst
import Derived.Stop.BytesEq
namespace Go.Proofs.Ytocnkfepiknglaa.PAll
open Go.RowKit Go.Proofs.YtocnkfepiknglaaW.PrintWords Go.Proofs.YtocnkfepiknglaaW.PrintLast Go.Proofs.YtocnkfepiknglaaW.PrintMore
set_option linter.unusedVariables false
set_option linter.unusedSimpArgs false

theorem absorb_rest : ∀ (n : Nat) (s : St) (xs : List Int), xs.length = n → (absorb s xs).2.length < 64 := by
  intro n
  induction n using Nat.strongRecOn with
  | ind n ih =>
    intro s xs hn
    by_cases h : 64 ≤ xs.length
    · rw [absorb_ge s xs h]
      exact ih (xs.drop 64).length (by rw [List.length_drop]; omega) _ _ rfl
    · rw [absorb_lt s xs h]
      show xs.length < 64
      omega
/-- The hash of bytes. -/
def hashL (b : List Int) : List Int := outs (absorb stH (b ++ padOf (b.length : Int))).1.list 32
/-- A hash that has been given all. -/
def HashIn (w : World) (base g : Nat) (all : List Int) : Prop := all.length ≤ 100000000 ∧ base ≤ w.heap.size ∧ ∃ t ct, HashAt w base g t ct (absorb stH all).1 (absorb stH all).2 (all.length : Int)
theorem HashIn.step {w w' : World} {base g : Nat} {all : List Int} (h : HashIn w base g all) (hb : Below w.heap.size w w') : HashIn w' base g all := by
  obtain ⟨h1, h2, t, ct, rv, hh, hq, hgb, hty, htc, hx⟩ := h
  have h3 := hb.size
  obtain ⟨cur, hcur⟩ := hty
  have ht := hb.block t (blk_lt hcur)
  exact ⟨h1, by omega, t, ct, rv, (hb.block g (blk_lt hh)).trans hh, bytes_step hq (fun k hk => hb.block k (q_lt hq k hk)), hgb, (table_kept ⟨cur, hcur⟩ htc ht).1, (table_kept ⟨cur, hcur⟩ htc ht).2, hx⟩
theorem HashIn.base_le {w : World} {base g : Nat} {all : List Int} (h : HashIn w base g all) : base ≤ g := by
  obtain ⟨_, _, t, ct, rv, _, _, hgb, _⟩ := h
  exact hgb
theorem HashIn.lt {w : World} {base g : Nat} {all : List Int} (h : HashIn w base g all) : g < w.heap.size := by
  obtain ⟨_, _, t, ct, rv, hh, _⟩ := h
  exact blk_lt hh
theorem new_in (w : World) : Calls Try.prog 11 #[] w fun e w' => ∃ g, e = .returned (.pointer (some ⟨g, 0, none⟩)) ∧ HashIn w' w.heap.size g [] ∧ Below w.heap.size w w' := by
  refine (new_hash w).mono ?_
  rintro e w' ⟨g, t, c, rfl, hh, hb⟩
  refine ⟨g, rfl, ⟨by decide, hb.size, t, c, ?_⟩, hb⟩
  rw [absorb_lt stH [] (by decide)]
  exact hh
theorem put_in {w : World} {base g : Nat} {all b : List Int} {A : Option Addr} (c : Nat) (h : HashIn w base g all) (hb : Kd.C (Kd.int .u8) w A b.length b) (hbg : ∀ a, A = some a → a.block ≠ g) (hby : ByteL b) (hl : all.length + b.length ≤ 100000000) :
    Calls Try.prog 12 #[.pointer (some ⟨g, 0, none⟩), .slice A b.length c] w fun e w' => e = .returned (.tuple #[]) ∧ HashIn w' base g (all ++ b) ∧ Below base w w' := by
  obtain ⟨h1, h2, t, ct, hh⟩ := h
  refine (put_calls base g t ct _ _ b _ A c w hh h2 (absorb_rest _ _ _ rfl) hb hbg hby (by omega) (by omega)).mono ?_
  rintro e w' ⟨rfl, hh', hb'⟩
  refine ⟨rfl, ⟨by rw [List.length_append]; exact hl, Nat.le_trans h2 hb'.size, t, ct, ?_⟩, hb'⟩
  rw [absorb_append b _ stH all rfl] at hh'
  have e : ((all.length : Int) + (b.length : Int)) % 18446744073709551616 = ((all ++ b).length : Int) := by rw [List.length_append]; push_cast; omega
  rw [e] at hh'
  exact hh'
theorem sum_in {w : World} {base g : Nat} {all : List Int} (h : HashIn w base g all) :
    Calls Try.prog 13 #[.pointer (some ⟨g, 0, none⟩)] w fun e w' => e = .returned (.agg (arr32 (hashL all))) ∧ HashIn w' base g all ∧ Below w.heap.size w w' := by
  have h0 := h
  obtain ⟨h1, h2, t, ct, hh⟩ := h
  refine (sum_calls base g t ct _ _ _ w hh (absorb_rest _ _ _ rfl) (by omega) (by omega)).mono ?_
  rintro e w' ⟨rfl, hb'⟩
  rw [absorb_append _ _ stH all rfl]
  exact ⟨rfl, h0.step hb', hb'⟩

set_option maxHeartbeats 8000000 in
set_option maxRecDepth 100000 in
theorem of_calls {w : World} {b : List Int} {A : Option Addr} (c : Nat) (hb : Kd.C (Kd.int .u8) w A b.length b) (hab : ∀ a, A = some a → a.block < w.heap.size) (hby : ByteL b) (hl : b.length ≤ 100000000) :
    Calls Try.prog 9 #[.slice A b.length c] w fun e w' => e = .returned (.agg (arr32 (hashL b))) ∧ Below w.heap.size w w' := by
  have HC := Aside0.mk hb
  have HAB := Aside0.mk hab
  clear hb hab
  go_enter Try.func9, Try.ntmps9
  go_upto_region 1 with (fail)
  obtain ⟨W, hW, h2, hb⟩ : ∃ W, W = w.alloc (.cells (arr32 zeros32) 24) ∧ W.heap[w.heap.size]? = some (.cells (arr32 zeros32) 24 (0, 0)) ∧ Below w.heap.size w W :=
    ⟨_, rfl, blk_new _ _, below_alloc (Below.refl _ _) _⟩
  have hWe : w.alloc (.cells (arr32 zeros32) 24) = W := hW.symm
  change Code.wp _ _ _ _ (w.alloc (.cells (arr32 zeros32) 24))
  rw [hWe]
  clear hW hWe
  have H2 := Aside0.mk h2
  have HB := Aside0.mk hb
  have hfl := blk_lt h2
  clear h2 hb
  go_wp2_with (first | (go_at_call 11; (with_reducible refine (new_in _).mono ?_); rintro e w1 ⟨g, rfl, hh1, hb1⟩; have HI1 := Aside0.mk hh1; have HB1 := Aside0.mk hb1; have hC1 := Kd.C_below (Kd.C_below HC.out HB.out) hb1; have hg1 := hh1.base_le; clear hb1; have hput := put_in c hh1 hC1 (fun a ha => by have := HAB.out a ha; omega) hby (by show 0 + b.length ≤ 100000000; omega); clear hh1 hC1; have HPUT := Aside0.mk hput; clear hput) | (go_at_call 12; (with_reducible refine HPUT.out.mono ?_); rintro e w2 ⟨rfl, hh2, hb2⟩; rw [List.nil_append] at hh2; have HI2 := Aside0.mk hh2; have HB2 := Aside0.mk hb2; clear hh2 hb2) | (go_at_call 13; (with_reducible refine (sum_in HI2.out).mono ?_); rintro e w3 ⟨rfl, hh3, hb3⟩; have HB3 := Aside0.mk hb3; clear hh3 hb3; have hz3 : (arr32 (hashL b)).size = 32 := arr32_size _ (outs_length _ _); have hz4 : (arr32 zeros32).size = 32 := arr32_size _ rfl; have h3 := (HB3.out.block _ (Nat.lt_of_lt_of_le hfl (Nat.le_trans HB1.out.size HB2.out.size))).trans ((HB2.out.block _ hfl).trans ((HB1.out.block _ hfl).trans H2.out)); have H3 := Aside0.mk h3; clear h3) | ((with_reducible refine gate_store (t := 24) (p := 2) rfl ?_); refine store32_at rfl (.tmp 2) (.tmp 9) rfl rfl rfl H3.out hz4 hz3 (arr32_one _) ?_))
  refine bodyPost_ret (v := .agg (arr32 (hashL b))) ?_ rfl ⟨rfl, ?_⟩
  · have hres : Try.f9.results = #[.cell 2 24] := by kernel_rfl
    have hl := run_loadVar_row (P := Try.prog) (w3.setRow w.heap.size (arr32 (hashL b))) w.heap.size 24 24 (arr32 (hashL b)) (0, 0) _ (setRow_heap H3.out) Try.underlying24 rfl (by rw [hz3]; exact size24)
    simp [results, hres, Act.put, asAddr, hl, Result.andThen]
  · have s0 := HB.out.size
    have s1 := HB1.out.size
    have s2 := HB2.out.size
    have hb := (HB.out.trans (HB1.out.mono s0)).trans ((HB2.out.mono s0).trans (HB3.out.mono (by omega)))
    exact ⟨hb.os, hb.tape, hb.output, by simpa [World.setRow] using hb.size, fun k hk => (setRow_far (by omega)).trans (hb.block k hk)⟩
end Go.Proofs.Ytocnkfepiknglaa.PAll
namespace Go.Proofs.Ytocnkfepiknglaa.PAll
open Go.RowKit Go.Proofs.YtocnkfepiknglaaW.PrintWords Go.Proofs.YtocnkfepiknglaaW.PrintLast Go.Proofs.YtocnkfepiknglaaW.PrintMore
set_option linter.unusedVariables false
set_option linter.unusedSimpArgs false

set_option maxRecDepth 1000000 in
theorem blk_empty : (blk rootsK stH (padOf 0)).list = [3820012610, 2566659092, 2600203464, 2574235940, 665731556, 1687917388, 2761267483, 2018687061] := by decide +kernel
set_option maxRecDepth 1000000 in
theorem blk_abc : (blk rootsK stH ([97, 98, 99] ++ padOf 3)).list = [3128432319, 2399260650, 1094795486, 1571693091, 2953011619, 2518121116, 3021012833, 4060091821] := by decide +kernel
theorem absorb_one (s : St) (xs : List Int) (h : xs.length = 64) : (absorb s xs).1 = blk rootsK s xs := by
  rw [absorb_ge s xs (by omega), List.take_of_length_le (by omega), absorb_lt _ _ (by rw [List.length_drop]; omega)]
def hashE : List Int := [227, 176, 196, 66, 152, 252, 28, 20, 154, 251, 244, 200, 153, 111, 185, 36, 39, 174, 65, 228, 100, 155, 147, 76, 164, 149, 153, 27, 120, 82, 184, 85]
def hashA : List Int := [186, 120, 22, 191, 143, 1, 207, 234, 65, 65, 64, 222, 93, 174, 34, 35, 176, 3, 97, 163, 150, 23, 122, 156, 180, 16, 255, 97, 242, 0, 21, 173]
set_option maxRecDepth 1000000 in
theorem hashL_nil : hashL [] = hashE := by
  unfold hashL
  rw [absorb_one _ _ (by decide), show ([] : List Int) ++ padOf (([] : List Int).length : Int) = padOf 0 from rfl, blk_empty]
  decide +kernel
set_option maxRecDepth 1000000 in
theorem hashL_abc : hashL [97, 98, 99] = hashA := by
  unfold hashL
  rw [absorb_one _ _ (by decide), show ([97, 98, 99] : List Int) ++ padOf (([97, 98, 99] : List Int).length : Int) = [97, 98, 99] ++ padOf 3 from rfl, blk_abc]
  decide +kernel

theorem C_of_cells {w : World} {g off : Nat} {xs : List Int} (hl : xs.length ≤ 1000000) (h : ∀ i, i < xs.length → w.cell? ⟨g, off + i, none⟩ = some (.int .u8 (rd xs i))) : Kd.C (Kd.int .u8) w (some ⟨g, off, none⟩) xs.length xs := by
  refine ⟨rfl, by omega, fun _ => ⟨_, rfl, fun j p hp => ⟨[.int .u8 p], rfl, rfl, fun i u hu => ?_⟩⟩⟩
  have hj : j < xs.length := (List.getElem?_eq_some_iff.1 hp).1
  have hi : i = 0 := by
    rcases i with _ | i
    · rfl
    · simp at hu
  subst hi
  simp only [List.getElem?_cons_zero, Option.some.injEq] at hu
  subst hu
  have e : (⟨g, off, none⟩ : Addr).add (j * (Kd.int .u8).sz + 0) = ⟨g, off + j, none⟩ := by
    show (⟨g, off, none⟩ : Addr).add (j * 1 + 0) = _
    unfold Addr.add
    split
    · simp_all
    · simp
  rw [e, h j hj]
  unfold rd
  rw [Int.toNat_natCast, List.getD_eq_getElem?_getD, hp]
  rfl
theorem C_abc (w : World) : Kd.C (Kd.int .u8) (w.alloc (.cells #[.int .u8 97, .int .u8 98, .int .u8 99] 5 (3, 4))) (some ⟨w.heap.size, 0, none⟩) 3 [97, 98, 99] :=
  C_of_cells (xs := [97, 98, 99]) (by decide) (fun i hi => by
    rw [cell_of_row _ _ _ _ _ _ (blk_new _ _)]
    rcases i with _ | _ | _ | i
    · rfl
    · rfl
    · rfl
    · exact absurd hi (by simp only [List.length_cons, List.length_nil]; omega))
theorem str8 {w : World} {B : Nat} {xs : List Int} (h : w.heap[B]? = some (.cells (arr32 xs) 24 (0, 0))) (hl : xs.length = 32) : (convert 22 9 (.slice (some ⟨B, 0, none⟩) 8 32)).run Try.prog w = .ok (.string (strOfNums (xs.take 8))) w := by
  refine Kd.C_string Try.underlying22 Try.underlying5 Try.underlying9 ?_
  have h8 : (xs.take 8).length = 8 := by rw [List.length_take]; omega
  have := C_of_cells (w := w) (g := B) (off := 0) (xs := xs.take 8) (by omega) (fun i hi => by
    rw [Nat.zero_add, arr32_cell h hl i (by omega), rd_take xs i 8 (by omega)])
  rw [h8] at this
  exact this
theorem str_E : strOfNums (hashE.take 8) = ⟨#[227, 176, 196, 66, 152, 252, 28, 20]⟩ := by decide +kernel
theorem str_A : strOfNums (hashA.take 8) = ⟨#[186, 120, 22, 191, 143, 1, 207, 234]⟩ := by decide +kernel

theorem abc_calls (w : World) : Calls Try.prog 9 #[.slice (some ⟨w.heap.size, 0, none⟩) 3 3] (w.alloc (.cells #[.int .u8 97, .int .u8 98, .int .u8 99] 5 (3, 4))) fun e w' => e = .returned (.agg (arr32 hashA)) ∧ Below w.heap.size w w' := by
  refine (of_calls (w := w.alloc (.cells #[.int .u8 97, .int .u8 98, .int .u8 99] 5 (3, 4))) (b := [97, 98, 99]) 3 (C_abc w) (fun a ha => by injection ha with ha; subst ha; exact blk_lt (blk_new _ _)) (fun x hx => by simp at hx; rcases hx with rfl | rfl | rfl <;> decide) (by decide)).mono ?_
  rintro e w' ⟨rfl, hb⟩
  rw [hashL_abc]
  exact ⟨rfl, below_step (below_alloc (Below.refl _ _) _) hb⟩

set_option maxHeartbeats 8000000 in
set_option maxRecDepth 100000 in
theorem awake_calls (w : World) : Calls Try.prog 8 #[] w fun e w' => e = .returned (.bool true) ∧ Below w.heap.size w w' := by
  have h1 : Aside0 (Calls Try.prog 9 #[.slice none 0 0] w fun e w' => e = .returned (.agg (arr32 hashE)) ∧ Below w.heap.size w w') := ⟨hashL_nil ▸ of_calls (w := w) (b := []) (A := none) 0 (bytes_C (bytes_nil w 0)).1 (fun a h => by cases h) (fun x hx => by simp at hx) (by decide)⟩
  have hu24 := Try.underlying24
  have hzE : (arr32 hashE).size = 32 := arr32_size _ rfl
  have hzA : (arr32 hashA).size = 32 := arr32_size _ rfl
  have hz0 : (arr32 zeros32).size = 32 := arr32_size _ rfl
  go_enter Try.func8, Try.ntmps8
  go_upto_region 2 with (first | (go_at_call 9; (with_reducible refine h1.out.mono ?_); rintro e w1 ⟨rfl, hb1⟩; have HB1 := Aside0.mk hb1; clear hb1; have hcv := Lib.run_convert_bytes_const (P := Try.prog) w1 22 5 #[.int .u8 97, .int .u8 98, .int .u8 99] 3 3 Try.underlying22 Try.underlying5) | (go_at_call 9; (with_reducible refine (abc_calls w1).mono ?_); rintro e w3 ⟨rfl, hb3⟩; have HB3 := Aside0.mk hb3; clear hb3 hcv) | ((with_reducible refine gate_store (t := 24) (p := 1) rfl ?_); refine store32_at rfl (.tmp 1) (.tmp 3) rfl rfl rfl (heap_alloc2_old _ _ _) rfl hzE (arr32_one _) ?_) | ((with_reducible refine gate_store (t := 24) (p := 2) rfl ?_); refine store32_at rfl (.tmp 2) (.tmp 6) rfl rfl rfl ((setRow_far (Nat.succ_ne_self _)).trans (heap_alloc2_new _ _ _)) rfl hzA (arr32_one _) ?_))
  obtain ⟨W, hW, hE, hA, hb⟩ : ∃ W, W = (((w3.alloc (.cells (arr32 zeros32) 24)).alloc (.cells (arr32 zeros32) 24)).setRow w3.heap.size (arr32 hashE)).setRow (w3.heap.size + 1) (arr32 hashA) ∧ W.heap[w3.heap.size]? = some (.cells (arr32 hashE) 24 (0, 0)) ∧ W.heap[w3.heap.size + 1]? = some (.cells (arr32 hashA) 24 (0, 0)) ∧ Below w3.heap.size w3 W := by
    refine ⟨_, rfl, (setRow_far (Nat.succ_ne_self _).symm).trans (setRow_heap (heap_alloc2_old _ _ _)), setRow_heap ((setRow_far (Nat.succ_ne_self _)).trans (heap_alloc2_new _ _ _)), ?_⟩
    have h0 : Below w3.heap.size w3 ((w3.alloc (.cells (arr32 zeros32) 24)).alloc (.cells (arr32 zeros32) 24)) := below_alloc (below_alloc (Below.refl _ _) _) _
    exact ⟨h0.os, h0.tape, h0.output, by simpa [World.setRow] using h0.size, fun k hk => (setRow_far (by omega)).trans ((setRow_far (by omega)).trans (h0.block k hk))⟩
  have hWe : (((w3.alloc (.cells (arr32 zeros32) 24)).alloc (.cells (arr32 zeros32) 24)).setRow w3.heap.size (arr32 hashE)).setRow (w3.heap.size + 1) (arr32 hashA) = W := hW.symm
  change Code.wp _ _ _ _ ((((w3.alloc (.cells (arr32 zeros32) 24)).alloc (.cells (arr32 zeros32) 24)).setRow w3.heap.size (arr32 hashE)).setRow (w3.heap.size + 1) (arr32 hashA))
  rw [hWe]
  clear hW hWe
  have hcE := str8 hE rfl
  have hcA := str8 hA rfl
  rw [str_E] at hcE
  rw [str_A] at hcA
  have HW := Aside0.mk hb
  clear hE hA hb
  go_wp2
  go_ret
  have s1 := HB1.out.size
  have s3 := HB3.out.size
  exact ⟨rfl, (HB1.out.trans (HB3.out.mono s1)).trans (HW.out.mono (by omega))⟩
end Go.Proofs.Ytocnkfepiknglaa.PAll
namespace Go.Proofs.Ytocnkfepiknglaa.PAll
open Go.RowKit Go.Proofs.YtocnkfepiknglaaW.PrintWords Go.Proofs.YtocnkfepiknglaaW.PrintLast Go.Proofs.YtocnkfepiknglaaW.PrintMore
set_option linter.unusedVariables false
set_option linter.unusedSimpArgs false

theorem arr32_cells (xs : List Int) (h : ByteL xs) : arr32 xs = ((xs.map fun x => UInt8.ofNat x.toNat).map Extern.Stop.cell).toArray := by
  unfold arr32
  rw [List.map_map]
  congr 1
  refine List.map_congr_left fun x hx => ?_
  obtain ⟨h0, h1⟩ := h x hx
  show Value.int .u8 x = Value.int .u8 ((UInt8.ofNat x.toNat).toNat : Int)
  congr 1
  rw [UInt8.toNat_ofNat']
  omega
theorem eq32_same (xs : List Int) (h : ByteL xs) (hl : xs.length = 32) (w : World) : (Op.equalIn 10000 24 (.agg (arr32 xs)) (.agg (arr32 xs))).run Try.prog w = .ok true w := by
  rw [arr32_cells xs h]
  have := run_equalIn_bytes (P := Try.prog) w 9998 24 5 32 Try.underlying24 Try.underlying5 (fun w => by
    obtain ⟨i0, hi, hzz⟩ := Option.map_eq_some_iff.1 infoB
    simp only [Prod.mk.injEq] at hzz
    obtain ⟨hz0, hz1, hz2⟩ := hzz
    simp [sizeOf, typeInfo, hi, hz1]) (xs.map fun x => UInt8.ofNat x.toNat) (xs.map fun x => UInt8.ofNat x.toNat) (by simpa using hl) (by simpa using hl)
  rw [this]
  simp
theorem byteL_set {xs : List Int} (h : ByteL xs) (i : Nat) {y : Int} (hy : 0 ≤ y ∧ y ≤ 255) : ByteL (xs.set i y) := fun x hx => by
  rcases List.mem_or_eq_of_mem_set hx with h' | rfl
  · exact h x h'
  · exact hy
theorem byteL_outs (h : List Int) : ∀ i, ByteL (outs h i)
  | 0 => fun x hx => by
    have := (List.mem_replicate.1 hx).2
    subst this
    decide
  | i + 1 => byteL_set (byteL_outs h i) i ⟨Int.emod_nonneg _ (by decide), by have := Int.emod_lt_of_pos (rd h ((i / 4 : Nat) : Int) / 2 ^ (24 - 8 * (i % 4))) (show (0 : Int) < 256 by decide); unfold outB; omega⟩
theorem eq_hash (b : List Int) (w : World) : (Op.equalIn 10000 24 (.agg (arr32 (hashL b))) (.agg (arr32 (hashL b)))).run Try.prog w = .ok true w := eq32_same _ (byteL_outs _ _) (outs_length _ _) w
theorem eq_zeros (w : World) : (Op.equalIn 10000 24 (.agg (arr32 zeros32)) (.agg (arr32 zeros32))).run Try.prog w = .ok true w := eq32_same _ (byteL_outs [] 0) rfl w
theorem eq_zeros_lit (w : World) : (Op.equalIn 10000 24 (.agg (arr32 zeros32)) (.agg #[.int .u8 0, .int .u8 0, .int .u8 0, .int .u8 0, .int .u8 0, .int .u8 0, .int .u8 0, .int .u8 0, .int .u8 0, .int .u8 0, .int .u8 0, .int .u8 0, .int .u8 0, .int .u8 0, .int .u8 0, .int .u8 0, .int .u8 0, .int .u8 0, .int .u8 0, .int .u8 0, .int .u8 0, .int .u8 0, .int .u8 0, .int .u8 0, .int .u8 0, .int .u8 0, .int .u8 0, .int .u8 0, .int .u8 0, .int .u8 0, .int .u8 0, .int .u8 0])).run Try.prog w = .ok true w := eq_zeros w
theorem of_nil (w : World) : Calls Try.prog 9 #[.slice none 0 0] w fun e w' => e = .returned (.agg (arr32 (hashL []))) ∧ Below w.heap.size w w' :=
  of_calls (w := w) (b := []) (A := none) 0 (bytes_C (bytes_nil w 0)).1 (fun a h => by cases h) (fun x hx => by simp at hx) (by decide)

set_option maxHeartbeats 8000000 in
set_option maxRecDepth 100000 in
theorem shaNil_walk (A : Option Addr) (n c : Nat) (w : World) : Calls Try.prog 6 #[.slice A n c] w fun e w' => e = .returned (.bool true) ∧ Below w.heap.size w w' := by
  have he0 := eq_zeros_lit
  have he1 := eq_hash []
  go_enter Try.func6, Try.ntmps6
  go_wp2_with (first | (go_at_call 8; (with_reducible refine (awake_calls _).mono ?_); rintro e w1 ⟨rfl, hb1⟩; have HB1 := Aside0.mk hb1; clear hb1) | (go_at_call 12; (with_reducible refine (put_nil A n c _).mono ?_); rintro e w2 ⟨rfl, rfl⟩) | (go_at_call 13; (with_reducible refine (sum_nil _).mono ?_); rintro e w3 ⟨rfl, hb3⟩; have HB3 := Aside0.mk hb3; clear hb3) | (go_at_call 11; (with_reducible refine (new_in _).mono ?_); rintro e w4 ⟨g, rfl, hi4, hb4⟩; have HI4 := Aside0.mk hi4; have HB4 := Aside0.mk hb4; clear hb4 hi4) | (go_at_call 13; (with_reducible refine (sum_in HI4.out).mono ?_); rintro e w5 ⟨rfl, hi5, hb5⟩; have HB5 := Aside0.mk hb5; clear hb5 hi5) | (go_at_call 9; (with_reducible refine (of_nil _).mono ?_); rintro e w6 ⟨rfl, hb6⟩; have HB6 := Aside0.mk hb6; clear hb6))
  go_ret
  have s1 := HB1.out.size
  have s3 := HB3.out.size
  have s4 := HB4.out.size
  have s5 := HB5.out.size
  exact ⟨rfl, (HB1.out.trans (HB3.out.mono s1)).trans ((HB4.out.mono (by omega)).trans ((HB5.out.mono (by omega)).trans (HB6.out.mono (by omega))))⟩
end Go.Proofs.Ytocnkfepiknglaa.PAll
