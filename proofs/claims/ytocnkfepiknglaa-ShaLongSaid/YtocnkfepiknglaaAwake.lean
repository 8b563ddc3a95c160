/- latchkeylaw03.Awake. -/
import Derived.Test.YtocnkfepiknglaaHash
import Derived.Lib.SlBytesConst
namespace Go.Proofs.Ytocnkfepiknglaa.PAll
open Go.RowKit Go.Proofs.YtocnkfepiknglaaW.PrintWords Go.Proofs.YtocnkfepiknglaaW.PrintLast Go.Proofs.YtocnkfepiknglaaW.PrintMore
set_option linter.unusedVariables false
set_option linter.unusedSimpArgs false

set_option maxRecDepth 1000000 in
theorem blk_empty : (blk rootsK stH (padOf 0)).list = [3820012610, 2566659092, 2600203464, 2574235940, 665731556, 1687917388, 2761267483, 2018687061] := by decide +kernel
set_option maxRecDepth 1000000 in
theorem blk_abc : (blk rootsK stH ([97, 98, 99] ++ padOf 3)).list = [3128432319, 2399260650, 1094795486, 1571693091, 2953011619, 2518121116, 3021012833, 4060091821] := by decide +kernel
theorem absorb_one (s : St) (xs : List Int) (h : xs.length = 64) : (absorb s xs).1 = blk rootsK s xs := by
  rw [absorb_ge s xs (by omega), List.take_of_length_le (by omega), absorb_lt _ _ (by rw [List.length_drop]; omega)]
def hashE : List Int := [227, 176, 196, 66, 152, 252, 28, 20, 154, 251, 244, 200, 153, 111, 185, 36, 39, 174, 65, 228, 100, 155, 147, 76, 164, 149, 153, 27, 120, 82, 184, 85]
def hashA : List Int := [186, 120, 22, 191, 143, 1, 207, 234, 65, 65, 64, 222, 93, 174, 34, 35, 176, 3, 97, 163, 150, 23, 122, 156, 180, 16, 255, 97, 242, 0, 21, 173]
set_option maxRecDepth 1000000 in
theorem hashL_nil : hashL [] = hashE := by
  unfold hashL
  rw [absorb_one _ _ (by decide), show ([] : List Int) ++ padOf (([] : List Int).length : Int) = padOf 0 from rfl, blk_empty]
  decide +kernel
set_option maxRecDepth 1000000 in
theorem hashL_abc : hashL [97, 98, 99] = hashA := by
  unfold hashL
  rw [absorb_one _ _ (by decide), show ([97, 98, 99] : List Int) ++ padOf (([97, 98, 99] : List Int).length : Int) = [97, 98, 99] ++ padOf 3 from rfl, blk_abc]
  decide +kernel

theorem C_of_cells {w : World} {g off : Nat} {xs : List Int} (hl : xs.length ≤ 1000000) (h : ∀ i, i < xs.length → w.cell? ⟨g, off + i, none⟩ = some (.int .u8 (rd xs i))) : Kd.C (Kd.int .u8) w (some ⟨g, off, none⟩) xs.length xs := by
  refine ⟨rfl, by omega, fun _ => ⟨_, rfl, fun j p hp => ⟨[.int .u8 p], rfl, rfl, fun i u hu => ?_⟩⟩⟩
  have hj : j < xs.length := (List.getElem?_eq_some_iff.1 hp).1
  have hi : i = 0 := by
    rcases i with _ | i
    · rfl
    · simp at hu
  subst hi
  simp only [List.getElem?_cons_zero, Option.some.injEq] at hu
  subst hu
  have e : (⟨g, off, none⟩ : Addr).add (j * (Kd.int .u8).sz + 0) = ⟨g, off + j, none⟩ := by
    show (⟨g, off, none⟩ : Addr).add (j * 1 + 0) = _
    unfold Addr.add
    split
    · simp_all
    · simp
  rw [e, h j hj]
  unfold rd
  rw [Int.toNat_natCast, List.getD_eq_getElem?_getD, hp]
  rfl
theorem C_abc (w : World) : Kd.C (Kd.int .u8) (w.alloc (.cells #[.int .u8 97, .int .u8 98, .int .u8 99] 5 (3, 4))) (some ⟨w.heap.size, 0, none⟩) 3 [97, 98, 99] :=
  C_of_cells (xs := [97, 98, 99]) (by decide) (fun i hi => by
    rw [cell_of_row _ _ _ _ _ _ (blk_new _ _)]
    rcases i with _ | _ | _ | i
    · rfl
    · rfl
    · rfl
    · exact absurd hi (by simp only [List.length_cons, List.length_nil]; omega))
theorem str8 {w : World} {B : Nat} {xs : List Int} (h : w.heap[B]? = some (.cells (arr32 xs) 24 (0, 0))) (hl : xs.length = 32) : (convert 22 9 (.slice (some ⟨B, 0, none⟩) 8 32)).run Try.prog w = .ok (.string (strOfNums (xs.take 8))) w := by
  refine Kd.C_string Try.underlying22 Try.underlying5 Try.underlying9 ?_
  have h8 : (xs.take 8).length = 8 := by rw [List.length_take]; omega
  have := C_of_cells (w := w) (g := B) (off := 0) (xs := xs.take 8) (by omega) (fun i hi => by
    rw [Nat.zero_add, arr32_cell h hl i (by omega), rd_take xs i 8 (by omega)])
  rw [h8] at this
  exact this
theorem str_E : strOfNums (hashE.take 8) = ⟨#[227, 176, 196, 66, 152, 252, 28, 20]⟩ := by decide +kernel
theorem str_A : strOfNums (hashA.take 8) = ⟨#[186, 120, 22, 191, 143, 1, 207, 234]⟩ := by decide +kernel

theorem abc_calls (w : World) : Calls Try.prog 9 #[.slice (some ⟨w.heap.size, 0, none⟩) 3 3] (w.alloc (.cells #[.int .u8 97, .int .u8 98, .int .u8 99] 5 (3, 4))) fun e w' => e = .returned (.agg (arr32 hashA)) ∧ Below w.heap.size w w' := by
  refine (of_calls (w := w.alloc (.cells #[.int .u8 97, .int .u8 98, .int .u8 99] 5 (3, 4))) (b := [97, 98, 99]) 3 (C_abc w) (fun a ha => by injection ha with ha; subst ha; exact blk_lt (blk_new _ _)) (fun x hx => by simp at hx; rcases hx with rfl | rfl | rfl <;> decide) (by decide)).mono ?_
  rintro e w' ⟨rfl, hb⟩
  rw [hashL_abc]
  exact ⟨rfl, below_step (below_alloc (Below.refl _ _) _) hb⟩

set_option maxHeartbeats 8000000 in
set_option maxRecDepth 100000 in
theorem awake_calls (w : World) : Calls Try.prog 8 #[] w fun e w' => e = .returned (.bool true) ∧ Below w.heap.size w w' := by
  have h1 : Aside0 (Calls Try.prog 9 #[.slice none 0 0] w fun e w' => e = .returned (.agg (arr32 hashE)) ∧ Below w.heap.size w w') := ⟨hashL_nil ▸ of_calls (w := w) (b := []) (A := none) 0 (bytes_C (bytes_nil w 0)).1 (fun a h => by cases h) (fun x hx => by simp at hx) (by decide)⟩
  have hu24 := Try.underlying24
  have hzE : (arr32 hashE).size = 32 := arr32_size _ rfl
  have hzA : (arr32 hashA).size = 32 := arr32_size _ rfl
  have hz0 : (arr32 zeros32).size = 32 := arr32_size _ rfl
  go_enter Try.func8, Try.ntmps8
  go_upto_region 2 with (first | (go_at_call 9; (with_reducible refine h1.out.mono ?_); rintro e w1 ⟨rfl, hb1⟩; have HB1 := Aside0.mk hb1; clear hb1; have hcv := Lib.run_convert_bytes_const (P := Try.prog) w1 22 5 #[.int .u8 97, .int .u8 98, .int .u8 99] 3 3 Try.underlying22 Try.underlying5) | (go_at_call 9; (with_reducible refine (abc_calls w1).mono ?_); rintro e w3 ⟨rfl, hb3⟩; have HB3 := Aside0.mk hb3; clear hb3 hcv) | ((with_reducible refine gate_store (t := 24) (p := 1) rfl ?_); refine store32_at rfl (.tmp 1) (.tmp 3) rfl rfl rfl (heap_alloc2_old _ _ _) rfl hzE (arr32_one _) ?_) | ((with_reducible refine gate_store (t := 24) (p := 2) rfl ?_); refine store32_at rfl (.tmp 2) (.tmp 6) rfl rfl rfl ((setRow_far (Nat.succ_ne_self _)).trans (heap_alloc2_new _ _ _)) rfl hzA (arr32_one _) ?_))
  obtain ⟨W, hW, hE, hA, hb⟩ : ∃ W, W = (((w3.alloc (.cells (arr32 zeros32) 24)).alloc (.cells (arr32 zeros32) 24)).setRow w3.heap.size (arr32 hashE)).setRow (w3.heap.size + 1) (arr32 hashA) ∧ W.heap[w3.heap.size]? = some (.cells (arr32 hashE) 24 (0, 0)) ∧ W.heap[w3.heap.size + 1]? = some (.cells (arr32 hashA) 24 (0, 0)) ∧ Below w3.heap.size w3 W := by
    refine ⟨_, rfl, (setRow_far (Nat.succ_ne_self _).symm).trans (setRow_heap (heap_alloc2_old _ _ _)), setRow_heap ((setRow_far (Nat.succ_ne_self _)).trans (heap_alloc2_new _ _ _)), ?_⟩
    have h0 : Below w3.heap.size w3 ((w3.alloc (.cells (arr32 zeros32) 24)).alloc (.cells (arr32 zeros32) 24)) := below_alloc (below_alloc (Below.refl _ _) _) _
    exact ⟨h0.os, h0.tape, h0.output, by simpa [World.setRow] using h0.size, fun k hk => (setRow_far (by omega)).trans ((setRow_far (by omega)).trans (h0.block k hk))⟩
  have hWe : (((w3.alloc (.cells (arr32 zeros32) 24)).alloc (.cells (arr32 zeros32) 24)).setRow w3.heap.size (arr32 hashE)).setRow (w3.heap.size + 1) (arr32 hashA) = W := hW.symm
  change Code.wp _ _ _ _ ((((w3.alloc (.cells (arr32 zeros32) 24)).alloc (.cells (arr32 zeros32) 24)).setRow w3.heap.size (arr32 hashE)).setRow (w3.heap.size + 1) (arr32 hashA))
  rw [hWe]
  clear hW hWe
  have hcE := str8 hE rfl
  have hcA := str8 hA rfl
  rw [str_E] at hcE
  rw [str_A] at hcA
  have HW := Aside0.mk hb
  clear hE hA hb
  go_wp2
  go_ret
  have s1 := HB1.out.size
  have s3 := HB3.out.size
  exact ⟨rfl, (HB1.out.trans (HB3.out.mono s1)).trans (HW.out.mono (by omega))⟩
end Go.Proofs.Ytocnkfepiknglaa.PAll
