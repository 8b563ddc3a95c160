/- The reference's Sum comes to the program's hash. -/
import Derived.Test.YtocnkfepiknglaaRf4
import Derived.Test.YtocnkfepiknglaaRf8
import Derived.Test.YtocnkfepiknglaaShaG
namespace Go.Proofs.Ytocnkfepiknglaa.PAll
open Go.RowKit Go.Shelf Go.Proofs.YtocnkfepiknglaaW.PrintWords Go.Proofs.YtocnkfepiknglaaW.PrintLast Go.Proofs.YtocnkfepiknglaaW.PrintMore
set_option linter.unusedVariables false
set_option linter.unusedSimpArgs false

/-- So many zeros make the length fit. -/
def padN (n : Nat) : Nat := ((119 - (n : Int) % 64) % 64).toNat
theorem padN_lt (n z : Nat) (h : z < padN n) : (((n + 1 + z : Nat) : Int) % 64 == 56) = false := by
  unfold padN at h
  rw [beq_eq_false_iff_ne]
  omega
theorem padN_eq (n : Nat) : (((n + 1 + padN n : Nat) : Int) % 64 == 56) = true := by
  unfold padN
  rw [beq_iff_eq]
  omega

theorem padOf_len (n : Nat) : (padOf (n : Int)).length = 9 + padN n := by
  unfold padOf padZ padN
  rw [List.length_append, List.length_append, List.length_replicate, lenT_length]
  simp only [List.length_cons, List.length_nil]
  omega
theorem rowcells8 {w : World} {base : Nat} {ok : Nat → Prop} {v : Value} {xs : List Int} (h : Kd.R (Kd.int .u8) 5 w base ok v xs) (hp : 0 < xs.length) :
    ∃ g c', v = .slice (some ⟨g, 0, none⟩) xs.length c' ∧ base ≤ g ∧ g < w.heap.size ∧ ∀ i, i < xs.length → w.cell? ⟨g, i, none⟩ = some (.int .u8 (rd xs i)) := by
  obtain ⟨g, c, hv, h1, h2, cells, h3⟩ := Kd.R_form h hp
  refine ⟨g, c, hv, h1, h2, fun i hi => ?_⟩
  rw [hv] at h
  have := (Kd.R_celln (0 : Int) h (i : Int) (by omega) (by omega)).1
  rw [Int.toNat_natCast] at this
  exact this
theorem grown_self (w : World) (g : Nat) : w.grownBy w (some g) := World.grownBy.refl w _
theorem stH_list : rootsH = stH.list := by decide +kernel
theorem Kd_ne {w : World} {base g t n m c d : Nat} {xs : List Int} (h : Kd.R (Kd.int .u32) 43 w base (fun k_ => some k_ ≠ (Value.slice (some ⟨t, 0, none⟩) m d).ownBlock) (.slice (some ⟨g, 0, none⟩) n c) xs) : g ≠ t := fun e => h.1 g rfl (by rw [e]; rfl)

theorem byteL_app {xs ys : List Int} (h1 : ByteL xs) (h2 : ByteL ys) : ByteL (xs ++ ys) := fun x hx => by
  rcases List.mem_append.1 hx with h | h
  · exact h1 x h
  · exact h2 x h

set_option maxHeartbeats 8000000 in
set_option maxRecDepth 100000 in
theorem ref_calls (A : Option Addr) (c : Nat) (b : List Int) (w : World) (hC : Kd.C (Kd.int .u8) w A b.length b) (hl : b.length ≤ 100000) (hby : ByteL b) :
    Calls Try.prog 10 #[.slice A b.length c] w fun e w' => e = .returned (.agg (arr32 (hashL b))) ∧ Below w.heap.size w w' := by
  have HC := Aside0.mk hC
  have HBY := Aside0.mk hby
  clear hC hby
  go_enter Try.func10, Try.ntmps10
  go_upto_region 1 with (fail)
  obtain ⟨w1, hW, hz0, hzb⟩ : ∃ W, W = w.alloc (.cells (arr32 zeros32) 24) ∧ W.heap[w.heap.size]? = some (.cells (arr32 zeros32) 24 (0, 0)) ∧ Below w.heap.size w W := ⟨_, rfl, blk_new _ _, below_alloc (Below.refl _ _) _⟩
  have hWe : w.alloc (.cells (arr32 zeros32) 24) = w1 := hW.symm
  change Code.wp _ _ _ _ (w.alloc (.cells (arr32 zeros32) 24))
  rw [hWe]
  clear hW hWe
  have HC1 := Aside0.mk (Kd.C_below HC.out hzb)
  have HZ0 := Aside0.mk hz0
  have HZB := Aside0.mk hzb
  have hfl := blk_lt hz0
  clear hz0 hzb
  go_upto_region 2 with (first | (go_at_call 17; (with_reducible refine (latchkeyref03_Words.calls 20000 rootsH rootsK _ words_ok).mono ?_); rintro e w2 ⟨vh, vk, rfl, hh, hk, hb⟩; have HRH := Aside0.mk hh; have HRK := Aside0.mk hk; have HB := Aside0.mk hb; clear hh hk hb))
  have HC2 := Aside0.mk (Kd.C_below HC1.out HB.out)
  go_upto_region 3 with (first | ((with_reducible refine gate_dst (N := 25) rfl ?_); refine Kd.R_lit (Kd.int .u8) _ 5 ?hg (N := 25) ?hd (xs := ([] : List Int)) (inner := []) (ok := fun _ => True) (okp := fun _ => True) ?hr ?hp (fun _ hk => hk) trivial (Below.refl _ _) (Nat.le_refl _) (by simp) ?_; (case hd => rfl); (case hg => rfl); (case hr => first | (go_simp; done) | (go_simp; rfl)); (case hp => exact (Reps.none _ _)); intro v3 w3 ho hb hg_ hnew_; clear hg_ hnew_; have HO3 := Aside0.mk ho; have HB3 := Aside0.mk hb; clear ho hb) | ((with_reducible refine gate_builtin (b := .append) (xs := #[.tmp 25, .tmp 26]) rfl ?_); at_builtin; refine Kd.R_append_rows (Kd.int .u8) (w0 := w2) w2.heap.size rfl (.tmp 25) (.tmp 26) 22 5 (.int .u8 0) 1 rfl Try.underlying22 infoB rfl (by decide) (by omega) v3 ([] : List Int) b _ _ _ (fun _ => True) (fun _ => False) rfl rfl HO3.out ?aR (fun _ _ h => h) (fun _ h => h.elim) (fun _ _ => trivial) HB3.out HB3.out.size ?aL ?_; (case aR => exact (Kd.C_below HC2.out HB3.out)); (case aL => simp; omega); intro v4 w4 ho hb hg hat; rw [List.nil_append] at ho; have HO4 := Aside0.mk ho; have HB4 := Aside0.mk hb; clear ho hb hg hat) | ((with_reducible refine gate_builtin (b := .append) (xs := #[.tmp 27, .tmp 28]) rfl ?_); at_builtin; refine byte_append rfl (.tmp 27) (.tmp 28) rfl (v := v4) rfl rfl HO4.out HB4.out HB4.out.size ?aL ?_; (case aL => omega); intro v5 w5 ho hb hg; have HO5 := Aside0.mk ho; have HB5 := Aside0.mk hb; clear ho hb hg))
  have HOZ : Aside0 (Kd.R (Kd.int .u8) 5 w5 w2.heap.size (fun _ => True) v5 (b ++ [128] ++ List.replicate 0 0)) := ⟨by rw [List.replicate_zero, List.append_nil]; exact HO5.out⟩
  clear HO3 HB3 HO4 HB4 HO5 HC1 HC2
  have hp64 : padN b.length ≤ 63 := by unfold padN; omega
  go_loopg [5] (padN b.length) (fun gg s5 wq => ∃ (z : Nat), z ≤ padN b.length ∧ padN b.length - z ≤ gg ∧ Aside0 (Kd.R (Kd.int .u8) 5 wq w2.heap.size (fun _ => True) s5 (b ++ [128] ++ List.replicate z 0)) ∧ Aside0 (Below w2.heap.size w2 wq))
  case atStart => exact ⟨0, by omega, by omega, HOZ, HB5⟩
  case round =>
    clear HOZ HB5
    obtain ⟨z, hz, hgg, HO, HBQ⟩ := hrel
    obtain ⟨ys, hys⟩ : ∃ ys, ys = b ++ [128] ++ List.replicate z 0 := ⟨_, rfl⟩
    have hyl : ys.length = b.length + 1 + z := by rw [hys, List.length_append, List.length_append, List.length_replicate]; rfl
    have ho := HO.out
    rw [← hys] at ho
    obtain ⟨A5, c5, hA5⟩ := Kd.R_slice ho
    subst hA5
    have HO' := Aside0.mk ho
    have HYS := Aside0.mk hys
    have HYL := Aside0.mk hyl
    by_cases hlt : z < padN b.length
    · have htst := padN_lt b.length z hlt
      have htst2 : (((b.length + 1 + z : Nat) : Int) % 64 != 56) = true := by rw [bne, htst]; rfl
      rw [← hyl] at htst htst2
      have HM := Aside0.mk (show padN b.length - (z + 1) < gk by omega)
      have HLT := Aside0.mk hlt
      have hys2 : ys.length ≤ 1000000 := by omega
      clear ho hys hyl hgg hlt hz HO
      go_wp2_with (first | ((with_reducible refine gate_builtin (b := .append) (xs := #[.tmp 34, .tmp 35]) rfl ?_); at_builtin; refine byte_append rfl (.tmp 34) (.tmp 35) rfl (v := .slice A5 ys.length c5) rfl rfl HO'.out HBQ.out HBQ.out.size ?aL ?_; (case aL => omega); intro v6 w6 ho hb hg; have HO6 := Aside0.mk ho; have HB6 := Aside0.mk hb; clear ho hb hg))
      go_roundg (padN b.length - (z + 1))
      case measure => exact HM.out
      case rel =>
        refine ⟨z + 1, HLT.out, Nat.le_refl _, ⟨?_⟩, HB6⟩
        have h6 := HO6.out
        rw [HYS.out, List.append_assoc, ← List.replicate_succ'] at h6
        exact h6
    · have hz0 : z = padN b.length := by omega
      have htst := padN_eq b.length
      have htst2 : (((b.length + 1 + padN b.length : Nat) : Int) % 64 != 56) = false := by rw [bne, htst]; rfl
      rw [← hz0, ← hyl] at htst htst2
      have hpz : ys = b ++ padZ (b.length : Int) := by rw [hys, hz0, List.append_assoc]; rfl
      have hys2 : ys.length ≤ 1000000 := by omega
      have HOP : Aside0 (Kd.R (Kd.int .u8) 5 wr w2.heap.size (fun _ => True) (.slice A5 ys.length c5) (b ++ padZ (b.length : Int) ++ lenT ((b.length : Int) * 8 % 18446744073709551616) 0)) := ⟨by rw [← hpz, show lenT ((b.length : Int) * 8 % 18446744073709551616) 0 = [] from rfl, List.append_nil]; exact ho⟩
      have hpl : (b ++ padZ (b.length : Int)).length ≤ 900000 := by rw [← hpz]; omega
      clear ho hys hyl hgg hlt hz hz0 HO HO' HYS hpz
      go_upto_region 7 with (fail)
      go_loopg [5, 7] 8 (fun gg s5 s7 wq => ∃ (j : Nat) (z : Int), j ≤ 8 ∧ 8 - j ≤ gg ∧ s7 = .int .i64 z ∧ z = 7 - (j : Int) ∧ Aside0 (Kd.R (Kd.int .u8) 5 wq w2.heap.size (fun _ => True) s5 (b ++ padZ (b.length : Int) ++ lenT ((b.length : Int) * 8 % 18446744073709551616) j)) ∧ Aside0 (Below w2.heap.size w2 wq))
      case atStart => exact ⟨0, 7, by omega, by omega, rfl, rfl, HOP, HBQ⟩
      case round =>
        clear HOP HBQ htst htst2 hys2
        obtain ⟨j, z, hj, hgg, rfl, hz, HOP, HBQ⟩ := hrel
        by_cases hlt : j < 8
        · obtain ⟨i, rfl⟩ : ∃ i : Nat, z = i := ⟨7 - j, by omega⟩
          have hi : i ≤ 7 := by omega
          have hiz : (0 : Int) ≤ (i : Int) := by omega
          obtain ⟨zs, hys⟩ : ∃ zs, zs = b ++ padZ (b.length : Int) ++ lenT ((b.length : Int) * 8 % 18446744073709551616) j := ⟨_, rfl⟩
          have hyl : zs.length ≤ 1000000 := by
            rw [hys, List.length_append, lenT_length]
            omega
          have hop := HOP.out
          rw [← hys] at hop
          have HYS := Aside0.mk hys
          have HZ := Aside0.mk hz
          have HLT := Aside0.mk hlt
          have HGG := Aside0.mk hgg
          clear HOP hys hz hlt hj hgg
          obtain ⟨A6, c6, hA6⟩ := Kd.R_slice hop
          subst hA6
          have HOP' := Aside0.mk hop
          clear hop
          go_upto_region 9 with (fail)
          go_wp2_with (first | ((with_reducible refine gate_builtin (b := .append) (xs := #[.tmp 45, .tmp 51]) rfl ?_); at_builtin; refine byte_append rfl (.tmp 45) (.tmp 51) rfl (v := .slice A6 zs.length c6) rfl rfl HOP'.out HBQ.out HBQ.out.size ?aL ?_; (case aL => omega); intro v6 w6 ho hb hg; have HO6 := Aside0.mk ho; have HB6 := Aside0.mk hb; clear ho hb hg))
          go_roundg (8 - (j + 1))
          case measure => have := HGG.out; have := HLT.out; omega
          case rel =>
            refine ⟨j + 1, (i : Int) - 1, HLT.out, Nat.le_refl _, rfl, ?_, ⟨?_⟩, HB6⟩
            · have := HZ.out; push_cast; omega
            · have h7 : 7 - j = i := by have := HZ.out; have := HLT.out; omega
              have h6 := HO6.out
              have e : (b.length : Int) * 8 % 18446744073709551616 = (b.length : Int) * 8 := by omega
              rw [HYS.out, List.append_assoc] at h6
              rw [lenT, h7]
              rw [e] at h6 ⊢
              exact h6
        · have hj8 : j = 8 := by omega
          subst hj8
          obtain rfl : z = -1 := by omega
          obtain ⟨al, hal⟩ : ∃ al, al = b ++ padOf (b.length : Int) := ⟨_, rfl⟩
          obtain ⟨M, hM⟩ : ∃ M, al.length = 64 * M := by
            refine ⟨al.length / 64, ?_⟩
            rw [hal, List.length_append, padOf_len]
            unfold padN
            omega
          have hop := HOP.out
          rw [List.append_assoc, show padZ (b.length : Int) ++ lenT ((b.length : Int) * 8 % 18446744073709551616) 8 = padOf (b.length : Int) from rfl, ← hal] at hop
          have halp : 0 < al.length := by rw [hal, List.length_append, padOf_len]; omega
          have hall : al.length ≤ 200000 := by rw [hal, List.length_append, padOf_len]; omega
          obtain ⟨ga, ca, hv5, hga1, hga2, hac⟩ := rowcells8 hop halp
          subst hv5
          obtain ⟨gh, ch, hvh, hgh1, hgh2, _, _⟩ := rowcells HRH.out (by decide)
          obtain ⟨gk', ck, hvk, hgk1, hgk2, _, hkc⟩ := rowcells HRK.out (by decide)
          rw [show rootsH.length = 8 from rfl] at hvh
          rw [show rootsK.length = 64 from rfl] at hvk
          subst hvh hvk
          have hgne : gk' ≠ gh := Kd_ne HRK.out
          have hgna : ga ≠ gh := by omega
          have hs2 := HBQ.out.size
          have hRH : Kd.R (Kd.int .u32) 43 wr w1.heap.size (fun k => k = gh) (.slice (some ⟨gh, 0, none⟩) 8 ch) (stN al 0).list := by
            show Kd.R (Kd.int .u32) 43 wr w1.heap.size (fun k => k = gh) (.slice (some ⟨gh, 0, none⟩) 8 ch) stH.list
            rw [← stH_list]
            exact only_block2 (Kd.R_below HRH.out HBQ.out)
          have hKC : ∀ i, i < 64 → wr.cell? ⟨gk', i, none⟩ = some (.int .u32 (rd rootsK i)) := fun i hi => (HBQ.out.cell hgk2).trans (hkc i hi)
          have HRH' := Aside0.mk hRH
          have HKC := Aside0.mk hKC
          have HAC := Aside0.mk hac
          have HAL := Aside0.mk hal
          have HMM := Aside0.mk hM
          have HGR := Aside0.mk (grown_self wr gh)
          have HB12 := Aside0.mk (HB.out.trans (HBQ.out.mono HB.out.size))
          have hb1 := HB12.out.size
          clear hop hRH hKC hkc hac hal hgg hlt hj HOP HBQ HRH HRK
          have hALn : ByteL al := by rw [HAL.out]; exact byteL_app HBY.out (byteL_padOf _)
          have hga0 : ga < wr.heap.size := hga2
          have hgk0 : gk' < wr.heap.size := Nat.lt_of_lt_of_le hgk2 hs2
          have hgh0 : gh < wr.heap.size := Nat.lt_of_lt_of_le hgh2 hs2
          go_upto_block 4 with (fail)
          refine walk4 (gt := gk') (ck := ck) (ga := ga) (ca := ca) al hALn M hM rfl hall HRH'.out HKC.out hgk0 hgne HAC.out hga0 hgna hgh0 ?_
          intro y8 y9 y10 y11 y12 y13 y14 y15 y16 y17 y18 y53 y54 y55 y56 y57 y58 y59 y60 y61 y62 y63 y64 y65 y66 y67 y68 y69 y70 y71 y72 y73 y74 y75 y76 y77 y78 y79 y80 y81 y82 y83 y84 y85 y86 y87 y88 y89 y90 y91 y92 y93 y94 y95 y96 y97 y98 y99 y100 y101 y102 y103 y104 y105 y106 y107 y108 y109 y110 y111 y112 y113 y114 y115 y116 y117 y118 y119 y120 y121 y122 y123 y124 y125 y126 y127 y128 y129 y130 y131 y132 y133 y134 y135 y136 y137 y138 y139 y140 y141 y142 y143 y144 y145 y146 y147 y148 y149 y150 y151 y152 y153 y154 y155 y156 y157 y158 y159 y160 y161 y162 y163 y164 y165 y166 y167 y168 y169 y170 y171 y172 y173 y174 y175 y176 y177 y178 y179 y180 y181 y182 y183 y184 y185 y186 y187 y188 y189 y190 y191 y192 y193 y194 y195 y196 y197 y198 y199 y200 y201 y202 y203 y204 y205 y206 y207 y208 y209 y210 y211 y212 y213 y214 y215 y216 y217 y218 y219 y220 y221 y222 y223 y224 y225 y226 y227 y228 y229 y230 y231 y232 y233 y234 y235 y236 y237 y238 y239 y240 y241 y242 y243 y244 y245 y246 y247 y248 y249 y250 y251 y252 y253 y254 y255 y256 y257 y258 y259 y260 y261 y262 y263 y264 y265 y266 y267 y268 y269 y270 y271 y272 y273 y274 y275 y276 y277 y278 y279 w6 hR6 hG6
          have HR6 := Aside0.mk hR6
          have HG6 := Aside0.mk hG6
          have hs6 := hG6.size
          clear hR6 hG6 HRH' HKC HAC
          have hz6 : w6.heap[w.heap.size]? = some (.cells (arr32 zeros32) 24 (0, 0)) := (HG6.out.block w.heap.size (by omega) (fun e => by injection e with e; omega)).trans ((HB12.out.block w.heap.size hfl).trans HZ0.out)
          have HZ6 := Aside0.mk hz6
          clear hz6
          go_upto_region 37 with (fail)
          obtain ⟨w7, hW, ho7, hb7⟩ : ∃ W, W = w6.alloc (.cells (arr32 zeros32) 24) ∧ W.heap[w6.heap.size]? = some (.cells (arr32 zeros32) 24 (0, 0)) ∧ Below w6.heap.size w6 W := ⟨_, rfl, blk_new _ _, below_alloc (Below.refl _ _) _⟩
          have hWe : w6.alloc (.cells (arr32 zeros32) 24) = w7 := hW.symm
          change Code.wp _ _ _ _ (w6.alloc (.cells (arr32 zeros32) 24))
          rw [hWe]
          clear hW hWe
          have hH7 : ∀ j : Nat, j < 8 → w7.cell? ⟨gh, j, none⟩ = some (.int .u32 (rd (absorb stH al).1.list j)) := fun j hj => by
            have := (Kd.R_celln (0 : Int) HR6.out (j : Int) (by omega) (by omega)).1
            rw [Int.toNat_natCast] at this
            exact (hb7.cell (p := ⟨gh, j, none⟩) (by show gh < _; omega)).trans this
          have hz7 := (hb7.block w.heap.size (by omega)).trans HZ6.out
          have hs7 := hb7.size
          have HH7 := Aside0.mk hH7
          have HZ7 := Aside0.mk hz7
          have HO7 := Aside0.mk ho7
          have HB7 := Aside0.mk hb7
          clear hH7 hz7 ho7 hb7
          go_upto_block 14 with (fail)
          refine walk14 (go := w6.heap.size) (absorb stH al).1.list HH7.out (by omega) (by omega) HO7.out ?_
          intro z20 z280 z281 z282 z283 z284 z285 z286 z287 z288 z289 z290 z291 z292 z293 z294 z295 z296 w8 ho8 hg8
          have hz8 := (hg8.block w.heap.size (by omega) (fun e => by injection e with e; omega)).trans HZ7.out
          have HO8 := Aside0.mk ho8
          have HZ8 := Aside0.mk hz8
          have HG8 := Aside0.mk hg8
          clear ho8 hz8 hg8
          have hzz : (arr32 (outs (absorb stH al).1.list 32)).size = 32 := arr32_size _ (outs_length _ _)
          have hz4 : (arr32 zeros32).size = 32 := arr32_size _ rfl
          go_wp2_with (first | ((with_reducible refine gate_dst (N := 297) rfl ?_); refine load32_at rfl (.tmp 19) rfl rfl HO8.out hzz ?_) | ((with_reducible refine gate_store (t := 24) (p := 2) rfl ?_); refine store32_at rfl (.tmp 2) (.tmp 297) rfl rfl rfl HZ8.out hz4 hzz (arr32_one _) ?_))
          have hres : outs (absorb stH al).1.list 32 = hashL b := by rw [HAL.out]; rfl
          rw [hres] at hzz ⊢
          refine bodyPost_ret (v := .agg (arr32 (hashL b))) ?_ rfl ⟨rfl, ?_⟩
          · have hrs : Try.f10.results = #[.cell 2 24] := by kernel_rfl
            have hl := run_loadVar_row (P := Try.prog) (w8.setRow w.heap.size (arr32 (hashL b))) w.heap.size 24 24 (arr32 (hashL b)) (0, 0) _ (setRow_heap HZ8.out) Try.underlying24 rfl (by rw [hzz]; exact size24)
            simp [results, hrs, Act.put, asAddr, hl, Result.andThen]
          · have hb := HZB.out.trans (HB12.out.mono (Nat.le_of_lt hfl))
            have h8 := HG8.out.size
            refine ⟨HG8.out.os.trans (HB7.out.os.trans (HG6.out.os.trans hb.os)), HG8.out.tape.trans (HB7.out.tape.trans (HG6.out.tape.trans hb.tape)), HG8.out.output.trans (HB7.out.output.trans (HG6.out.output.trans hb.output)), ?_, fun k hk => ?_⟩
            · have : w.heap.size ≤ w8.heap.size := by omega
              simpa [World.setRow] using this
            · have hk' : k < w.heap.size := hk
              rw [setRow_far (by omega), HG8.out.block k (by omega) (fun e => by injection e with e; omega), HB7.out.block k (by show k < _; omega), HG6.out.block k (by omega) (fun e => by injection e with e; omega)]
              exact hb.block k hk'
end Go.Proofs.Ytocnkfepiknglaa.PAll
