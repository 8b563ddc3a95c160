/- The reference's Sum: a block. The reference's Sum: the blocks. -/
import Derived.Test.YtocnkfepiknglaaRf10
namespace Go.Proofs.Ytocnkfepiknglaa.PAll
open Go.RowKit Go.Shelf Go.Proofs.YtocnkfepiknglaaW.PrintWords Go.Proofs.YtocnkfepiknglaaW.PrintLast Go.Proofs.YtocnkfepiknglaaW.PrintMore
set_option linter.unusedVariables false
set_option linter.unusedSimpArgs false

theorem grown_of_below {w w' : World} {g : Nat} (h : Below w.heap.size w w') : w.grownBy w' (some g) := ⟨h.os, h.tape, h.output, h.size, fun k hk _ => h.block k hk⟩
theorem grown_then {w0 w w' : World} {g : Nat} (h : w0.grownBy w (some g)) (k : w.grownBy w' (some g)) : w0.grownBy w' (some g) :=
  ⟨k.os.trans h.os, k.tape.trans h.tape, k.output.trans h.output, Nat.le_trans h.size k.size, fun i hi hne => (k.block i (Nat.lt_of_lt_of_le hi h.size) hne).trans (h.block i hi hne)⟩

set_option maxHeartbeats 8000000 in
set_option maxRecDepth 1000000 in
theorem walk5 {t0 t1 t2 t6 t7 t9 t10 t11 t12 t13 t14 t15 t16 t17 t18 t19 t20 t21 t22 t23 t24 t25 t26 t27 t28 t29 t30 t31 t32 t33 t34 t35 t36 t37 t38 t39 t40 t41 t42 t43 t44 t45 t46 t47 t48 t49 t50 t51 t52 t53 t54 t55 t56 t57 t58 t59 t60 t61 t62 t63 t64 t65 t66 t67 t68 t69 t70 t71 t72 t73 t74 t75 t76 t77 t78 t79 t80 t81 t82 t83 t84 t85 t86 t87 t88 t89 t90 t91 t92 t93 t94 t95 t96 t97 t98 t99 t100 t101 t102 t103 t104 t105 t106 t107 t108 t109 t110 t111 t112 t113 t114 t115 t116 t117 t118 t119 t120 t121 t122 t123 t124 t125 t126 t127 t128 t129 t130 t131 t132 t133 t134 t135 t136 t137 t138 t139 t140 t141 t142 t143 t144 t145 t146 t147 t148 t149 t150 t151 t152 t153 t154 t155 t156 t157 t158 t159 t160 t161 t162 t163 t164 t165 t166 t167 t168 t169 t170 t171 t172 t173 t174 t175 t176 t177 t178 t179 t180 t181 t182 t183 t184 t185 t186 t187 t188 t189 t190 t191 t192 t193 t194 t195 t196 t197 t198 t199 t200 t201 t202 t203 t204 t205 t206 t207 t208 t209 t210 t211 t212 t213 t214 t215 t216 t217 t218 t219 t220 t221 t222 t223 t224 t225 t226 t227 t228 t229 t230 t231 t232 t233 t234 t235 t236 t237 t238 t239 t240 t241 t242 t243 t244 t245 t246 t247 t248 t249 t250 t251 t252 t253 t254 t255 t256 t257 t258 t259 t260 t261 t262 t263 t264 t265 t266 t267 t268 t269 t270 t271 t272 t273 t274 t275 t276 t277 t278 t279 t280 t281 t282 t283 t284 t285 t286 t287 t288 t289 t290 t291 t292 t293 t294 t295 t296 t297 : Value} {K : Act → World → Prop} {Q : Exit → Act → World → Prop} {w : World} {b1 gh ch gt ck ga ca n p : Nat} (B : List Int) (hBL : ByteL B) (s : St)
    (hH : Kd.R (Kd.int .u32) 43 w b1 (fun k => k = gh) (.slice (some ⟨gh, 0, none⟩) 8 ch) s.list) (hT : ∀ j : Nat, j < 64 → w.cell? ⟨gt, j, none⟩ = some (.int .u32 (rd rootsK j))) (hgt : gt < w.heap.size) (hA : ∀ j : Nat, j < 64 → w.cell? ⟨ga, p + j, none⟩ = some (.int .u8 (rd B j))) (hga : ga < w.heap.size) (hgh : gh < w.heap.size) (hp : p + 64 ≤ n) (hn : n ≤ 200000)
    (hK : ∀ (u9 u10 u11 u12 u13 u14 u15 u16 u17 u18 u59 u60 u61 u62 u63 u64 u65 u66 u67 u68 u69 u70 u71 u72 u73 u74 u75 u76 u77 u78 u79 u80 u81 u82 u83 u84 u85 u86 u87 u88 u89 u90 u91 u92 u93 u94 u95 u96 u97 u98 u99 u100 u101 u102 u103 u104 u105 u106 u107 u108 u109 u110 u111 u112 u113 u114 u115 u116 u117 u118 u119 u120 u121 u122 u123 u124 u125 u126 u127 u128 u129 u130 u131 u132 u133 u134 u135 u136 u137 u138 u139 u140 u141 u142 u143 u144 u145 u146 u147 u148 u149 u150 u151 u152 u153 u154 u155 u156 u157 u158 u159 u160 u161 u162 u163 u164 u165 u166 u167 u168 u169 u170 u171 u172 u173 u174 u175 u176 u177 u178 u179 u180 u181 u182 u183 u184 u185 u186 u187 u188 u189 u190 u191 u192 u193 u194 u195 u196 u197 u198 u199 u200 u201 u202 u203 u204 u205 u206 u207 u208 u209 u210 u211 u212 u213 u214 u215 u216 u217 u218 u219 u220 u221 u222 u223 u224 u225 u226 u227 u228 u229 u230 u231 u232 u233 u234 u235 u236 u237 u238 u239 u240 u241 u242 u243 u244 u245 u246 u247 u248 u249 u250 u251 u252 u253 u254 u255 u256 u257 u258 u259 u260 u261 u262 u263 u264 u265 u266 u267 u268 u269 u270 u271 u272 u273 u274 u275 u276 u277 u278 u279 : Value) (w' : World), Kd.R (Kd.int .u32) 43 w' b1 (fun k => k = gh) (.slice (some ⟨gh, 0, none⟩) 8 ch) (blk rootsK s B).list → w.grownBy w' (some gh) → K ⟨#[t0, t1, t2, .slice (some ⟨gh, 0, none⟩) 8 ch, .slice (some ⟨gt, 0, none⟩) 64 ck, .slice (some ⟨ga, 0, none⟩) n ca, t6, t7, .int .i64 p, u9, u10, u11, u12, u13, u14, u15, u16, u17, u18, t19, t20, t21, t22, t23, t24, t25, t26, t27, t28, t29, t30, t31, t32, t33, t34, t35, t36, t37, t38, t39, t40, t41, t42, t43, t44, t45, t46, t47, t48, t49, t50, t51, t52, t53, t54, t55, t56, t57, t58, u59, u60, u61, u62, u63, u64, u65, u66, u67, u68, u69, u70, u71, u72, u73, u74, u75, u76, u77, u78, u79, u80, u81, u82, u83, u84, u85, u86, u87, u88, u89, u90, u91, u92, u93, u94, u95, u96, u97, u98, u99, u100, u101, u102, u103, u104, u105, u106, u107, u108, u109, u110, u111, u112, u113, u114, u115, u116, u117, u118, u119, u120, u121, u122, u123, u124, u125, u126, u127, u128, u129, u130, u131, u132, u133, u134, u135, u136, u137, u138, u139, u140, u141, u142, u143, u144, u145, u146, u147, u148, u149, u150, u151, u152, u153, u154, u155, u156, u157, u158, u159, u160, u161, u162, u163, u164, u165, u166, u167, u168, u169, u170, u171, u172, u173, u174, u175, u176, u177, u178, u179, u180, u181, u182, u183, u184, u185, u186, u187, u188, u189, u190, u191, u192, u193, u194, u195, u196, u197, u198, u199, u200, u201, u202, u203, u204, u205, u206, u207, u208, u209, u210, u211, u212, u213, u214, u215, u216, u217, u218, u219, u220, u221, u222, u223, u224, u225, u226, u227, u228, u229, u230, u231, u232, u233, u234, u235, u236, u237, u238, u239, u240, u241, u242, u243, u244, u245, u246, u247, u248, u249, u250, u251, u252, u253, u254, u255, u256, u257, u258, u259, u260, u261, u262, u263, u264, u265, u266, u267, u268, u269, u270, u271, u272, u273, u274, u275, u276, u277, u278, u279, t280, t281, t282, t283, t284, t285, t286, t287, t288, t289, t290, t291, t292, t293, t294, t295, t296, t297], []⟩ w') :
    Code.wp Try.prog (bk 5) (Exit.then K Q) ⟨#[t0, t1, t2, .slice (some ⟨gh, 0, none⟩) 8 ch, .slice (some ⟨gt, 0, none⟩) 64 ck, .slice (some ⟨ga, 0, none⟩) n ca, t6, t7, .int .i64 p, t9, t10, t11, t12, t13, t14, t15, t16, t17, t18, t19, t20, t21, t22, t23, t24, t25, t26, t27, t28, t29, t30, t31, t32, t33, t34, t35, t36, t37, t38, t39, t40, t41, t42, t43, t44, t45, t46, t47, t48, t49, t50, t51, t52, t53, t54, t55, t56, t57, t58, t59, t60, t61, t62, t63, t64, t65, t66, t67, t68, t69, t70, t71, t72, t73, t74, t75, t76, t77, t78, t79, t80, t81, t82, t83, t84, t85, t86, t87, t88, t89, t90, t91, t92, t93, t94, t95, t96, t97, t98, t99, t100, t101, t102, t103, t104, t105, t106, t107, t108, t109, t110, t111, t112, t113, t114, t115, t116, t117, t118, t119, t120, t121, t122, t123, t124, t125, t126, t127, t128, t129, t130, t131, t132, t133, t134, t135, t136, t137, t138, t139, t140, t141, t142, t143, t144, t145, t146, t147, t148, t149, t150, t151, t152, t153, t154, t155, t156, t157, t158, t159, t160, t161, t162, t163, t164, t165, t166, t167, t168, t169, t170, t171, t172, t173, t174, t175, t176, t177, t178, t179, t180, t181, t182, t183, t184, t185, t186, t187, t188, t189, t190, t191, t192, t193, t194, t195, t196, t197, t198, t199, t200, t201, t202, t203, t204, t205, t206, t207, t208, t209, t210, t211, t212, t213, t214, t215, t216, t217, t218, t219, t220, t221, t222, t223, t224, t225, t226, t227, t228, t229, t230, t231, t232, t233, t234, t235, t236, t237, t238, t239, t240, t241, t242, t243, t244, t245, t246, t247, t248, t249, t250, t251, t252, t253, t254, t255, t256, t257, t258, t259, t260, t261, t262, t263, t264, t265, t266, t267, t268, t269, t270, t271, t272, t273, t274, t275, t276, t277, t278, t279, t280, t281, t282, t283, t284, t285, t286, t287, t288, t289, t290, t291, t292, t293, t294, t295, t296, t297], []⟩ w := by
  have HH := Aside0.mk hH
  have HT := Aside0.mk hT
  have HA := Aside0.mk hA
  have HK := Aside0.mk hK
  clear hH hT hA hK
  conv => arg 2; whnf
  go_upto_block 6 with (first | ((with_reducible refine gate_dst (N := 59) rfl ?_); refine Kd.R_make (Kd.int .u32) _ 43 rfl (N := 59) rfl 39 _ _ rfl 64 rfl rfl Try.underlying39 (.int .u32 0) 4 info43 rfl (by decide) (by omega) 0 (ok := fun _ => True) (okp := fun _ => True) rfl (fun _ hk => hk) trivial (by decide) (by decide) (Below.refl _ _) (Nat.le_refl _) ?_; intro v7 w7 ho hb hg_ hnew_; clear hg_ hnew_; obtain ⟨gw, cw, rfl, hgw1, hgw2, _⟩ := Kd.R_form ho (by decide); have HO := Aside0.mk ho; have HB7 := Aside0.mk hb; clear ho hb))
  have hO0 : Kd.R (Kd.int .u32) 43 w7 w.heap.size (fun _ => True) (.slice (some ⟨gw, 0, none⟩) 64 cw) (wS B 0) := HO.out
  have hA7 : ∀ j : Nat, j < 64 → w7.cell? ⟨ga, p + j, none⟩ = some (.int .u8 (rd B j)) := fun j hj => (HB7.out.cell hga).trans (HA.out j hj)
  have HO0 := Aside0.mk hO0
  have HA7 := Aside0.mk hA7
  clear HO hO0 hA7
  refine walk6 (base := w.heap.size) (cw := cw) (gw := gw) B hBL HO0.out HA7.out hga HB7.out.size hp hn ?_
  intro y10 y11 y12 y13 y60 y61 y62 y63 y64 y65 y66 y67 y68 y69 y70 y71 y72 y73 y74 y75 y76 y77 y78 y79 y80 y81 y82 y83 y84 y85 y86 y87 y88 y89 y90 y91 y92 y93 y94 y95 y96 y97 y98 y99 y100 y101 y102 y103 y104 y105 y106 y107 y108 y109 y110 y111 y112 y113 y114 y115 y116 y117 y118 y119 y120 y121 y122 y123 y124 y125 y126 y127 y128 y129 y130 y131 y132 y133 y134 y135 y136 y137 y138 y139 y140 y141 y142 y143 y144 y145 y146 w8 hR8 hB8
  have hs78 := hB8.size
  have HR8 := Aside0.mk hR8
  have HB8 := Aside0.mk (HB7.out.trans hB8)
  clear hR8 hB8 HO0 HA7 HB7
  have hRH := Kd.R_below HH.out HB8.out
  have HRH := Aside0.mk hRH
  clear hRH
  have hs8 := HB8.out.size
  have hgh8 : gh < w8.heap.size := by omega
  go_upto_block 10 with (first | ((with_reducible refine gate_dst (N := 147) rfl ?_); refine Kd.R_lit (Kd.int .u32) _ 43 ?hg (N := 147) ?hd (xs := ([] : List Int)) (inner := []) (ok := fun _ => True) (okp := fun _ => True) ?hr ?hp (fun _ hk => hk) trivial (Below.refl _ _) (Nat.le_refl _) (by simp) ?_; (case hd => rfl); (case hg => rfl); (case hr => first | (go_simp; done) | (go_simp; rfl)); (case hp => exact (Reps.none _ _)); intro v3 w9 ho hb hg_ hnew_; clear hg_ hnew_; have HO9 := Aside0.mk ho; have HB9 := Aside0.mk hb; have HC9 := Aside0.mk (Kd.R_reads' (Kd.R_below HRH.out hb)).2.2; clear ho hb) | ((with_reducible refine gate_builtin (b := .append) (xs := #[.tmp 147, .tmp 148]) rfl ?_); at_builtin; refine Kd.R_append_rows (Kd.int .u32) (w0 := w8) w8.heap.size rfl (.tmp 147) (.tmp 148) 39 43 (.int .u32 0) 4 rfl Try.underlying39 info43 rfl (by decide) (by omega) v3 ([] : List Int) s.list _ _ _ (fun _ => True) (fun _ => False) rfl rfl HO9.out HC9.out (fun _ _ h => h) (fun _ h => h.elim) (fun _ _ => trivial) HB9.out HB9.out.size ?aL ?_; (case aL => decide); intro v4 w10 ho hb hg hat; rw [List.nil_append] at ho; have HV := Aside0.mk ho; have HB10 := Aside0.mk hb; clear ho hb hg hat))
  have hgw8 : gw < w8.heap.size := by omega
  have hT10 : ∀ j : Nat, j < 64 → w10.cell? ⟨gt, j, none⟩ = some (.int .u32 (rd rootsK j)) := fun j hj => (HB10.out.cell (p := ⟨gt, j, none⟩) (Nat.lt_of_lt_of_le hgt hs8)).trans ((HB8.out.cell hgt).trans (HT.out j hj))
  have hW10 : ∀ j : Nat, j < 64 → w10.cell? ⟨gw, j, none⟩ = some (.int .u32 (rd (sched2 B 48) j)) := fun j hj => by
    have := (Kd.R_celln (0 : Int) HR8.out (j : Int) (by omega) (by omega)).1
    rw [Int.toNat_natCast] at this
    exact (HB10.out.cell (p := ⟨gw, j, none⟩) hgw8).trans this
  have HT10 := Aside0.mk hT10
  have HW10 := Aside0.mk hW10
  have hs10 := HB10.out.size
  clear hT10 hW10
  refine walk10 (b0 := w8.heap.size) (sched2 B 48) s HV.out HT10.out (by omega) HW10.out (by omega) hs10 ?_
  intro z15 z16 z17 z150 z151 z152 z153 z154 z155 z156 z157 z158 z159 z160 z161 z162 z163 z164 z165 z166 z167 z168 z169 z170 z171 z172 z173 z174 z175 z176 z177 z178 z179 z180 z181 z182 z183 z184 z185 z186 z187 z188 z189 z190 z191 z192 z193 z194 z195 z196 z197 z198 z199 z200 z201 z202 z203 z204 z205 z206 z207 z208 z209 z210 z211 z212 z213 z214 z215 z216 z217 z218 z219 z220 z221 z222 z223 z224 z225 z226 z227 z228 z229 z230 z231 z232 z233 z234 z235 z236 z237 z238 z239 z240 z241 z242 z243 z244 z245 z246 z247 z248 z249 z250 z251 z252 z253 z254 z255 z256 z257 z258 z259 z260 z261 z262 z263 v11 w11 hV11 hB11
  have HB11 := Aside0.mk hB11
  have hs11 := hB11.size
  have HRH11 := Aside0.mk (Kd.R_below (Kd.R_below HRH.out HB10.out) hB11)
  obtain ⟨z, hz⟩ : ∃ z, z = rnds rootsK (sched2 B 48) s 64 := ⟨_, rfl⟩
  rw [← hz] at hV11
  obtain ⟨gv, cv, hsv, hgv0, hgvl, _, hvc⟩ := rowcells hV11 (show 0 < 8 by decide)
  have hvc8 : ∀ j : Nat, j < 8 → w11.cell? ⟨gv, j, none⟩ = some (.int .u32 (rd z.list j)) := fun j hj => hvc j hj
  have HVC := Aside0.mk hvc8
  have HZ := Aside0.mk hz
  rw [show z.list.length = 8 from rfl] at hsv
  subst hsv
  clear hB11 hV11 hvc hvc8 hz HT10 HW10 HV
  go_upto_block 12 with (fail)
  refine walk12 (gv := gv) (cv := cv) s z HRH11.out HVC.out hgvl (by omega) ?_
  intro x18 x264 x265 x266 x267 x268 x269 x270 x271 x272 x273 x274 x275 x276 x277 x278 x279 w12 hR12 hG12
  have HR12 := Aside0.mk hR12
  have HG12 := Aside0.mk hG12
  clear hR12 hG12
  go_wp2_with (fail)
  refine HK.out _ _ _ _ _ _ _ _ _ _ _ _ _ _ _ _ _ _ _ _ _ _ _ _ _ _ _ _ _ _ _ _ _ _ _ _ _ _ _ _ _ _ _ _ _ _ _ _ _ _ _ _ _ _ _ _ _ _ _ _ _ _ _ _ _ _ _ _ _ _ _ _ _ _ _ _ _ _ _ _ _ _ _ _ _ _ _ _ _ _ _ _ _ _ _ _ _ _ _ _ _ _ _ _ _ _ _ _ _ _ _ _ _ _ _ _ _ _ _ _ _ _ _ _ _ _ _ _ _ _ _ _ _ _ _ _ _ _ _ _ _ _ _ _ _ _ _ _ _ _ _ _ _ _ _ _ _ _ _ _ _ _ _ _ _ _ _ _ _ _ _ _ _ _ _ _ _ _ _ _ _ _ _ _ _ _ _ _ _ _ _ _ _ _ _ _ _ _ _ _ _ _ _ _ _ _ _ _ _ _ _ _ _ _ _ _ _ _ _ _ _ _ _ _ _ _ _ _ _ _ _  _ ?_ ?_
  · have h := HR12.out
    rw [HZ.out] at h
    exact h
  · exact grown_then (grown_then (grown_of_below HB8.out) (grown_of_below HB10.out)) (grown_then (grown_of_below HB11.out) HG12.out)
end Go.Proofs.Ytocnkfepiknglaa.PAll
namespace Go.Proofs.Ytocnkfepiknglaa.PAll
open Go.RowKit Go.Shelf Go.Proofs.YtocnkfepiknglaaW.PrintWords Go.Proofs.YtocnkfepiknglaaW.PrintLast Go.Proofs.YtocnkfepiknglaaW.PrintMore
set_option linter.unusedVariables false
set_option linter.unusedSimpArgs false

/-- The state behind so many blocks. -/
def stN (al : List Int) : Nat → St
  | 0 => stH
  | m + 1 => blk rootsK (stN al m) ((al.drop (64 * m)).take 64)
theorem stN_absorb (al : List Int) (M : Nat) (h : al.length = 64 * M) : (absorb stH al).1 = stN al M := by
  have key : ∀ m, m ≤ M → absorb stH al = absorb (stN al m) (al.drop (64 * m)) := by
    intro m
    induction m with
    | zero => intro _; rfl
    | succ m ih =>
      intro hm
      rw [ih (by omega), absorb_ge _ _ (by rw [List.length_drop]; omega), List.drop_drop, show 64 * m + 64 = 64 * (m + 1) by omega]
      rfl
  rw [key M (Nat.le_refl _), absorb_lt _ _ (by rw [List.length_drop]; omega)]
theorem rd_block (al : List Int) (p i : Nat) (h : i < 64) : rd ((al.drop p).take 64) (i : Int) = rd al ((p + i : Nat) : Int) := by
  rw [rd_take _ i 64 h]
  unfold rd
  rw [Int.toNat_natCast, Int.toNat_natCast, List.getD_eq_getElem?_getD, List.getD_eq_getElem?_getD, List.getElem?_drop]
theorem byteL_mid {xs : List Int} (h : ByteL xs) (p n : Nat) : ByteL ((xs.drop p).take n) := fun x hx => h x (List.mem_of_mem_drop (List.mem_of_mem_take hx))

set_option maxHeartbeats 8000000 in
set_option maxRecDepth 1000000 in
theorem walk4 {t0 t1 t2 t6 t7 t9 t10 t11 t12 t13 t14 t15 t16 t17 t18 t19 t20 t21 t22 t23 t24 t25 t26 t27 t28 t29 t30 t31 t32 t33 t34 t35 t36 t37 t38 t39 t40 t41 t42 t43 t44 t45 t46 t47 t48 t49 t50 t51 t52 t53 t54 t55 t56 t57 t58 t59 t60 t61 t62 t63 t64 t65 t66 t67 t68 t69 t70 t71 t72 t73 t74 t75 t76 t77 t78 t79 t80 t81 t82 t83 t84 t85 t86 t87 t88 t89 t90 t91 t92 t93 t94 t95 t96 t97 t98 t99 t100 t101 t102 t103 t104 t105 t106 t107 t108 t109 t110 t111 t112 t113 t114 t115 t116 t117 t118 t119 t120 t121 t122 t123 t124 t125 t126 t127 t128 t129 t130 t131 t132 t133 t134 t135 t136 t137 t138 t139 t140 t141 t142 t143 t144 t145 t146 t147 t148 t149 t150 t151 t152 t153 t154 t155 t156 t157 t158 t159 t160 t161 t162 t163 t164 t165 t166 t167 t168 t169 t170 t171 t172 t173 t174 t175 t176 t177 t178 t179 t180 t181 t182 t183 t184 t185 t186 t187 t188 t189 t190 t191 t192 t193 t194 t195 t196 t197 t198 t199 t200 t201 t202 t203 t204 t205 t206 t207 t208 t209 t210 t211 t212 t213 t214 t215 t216 t217 t218 t219 t220 t221 t222 t223 t224 t225 t226 t227 t228 t229 t230 t231 t232 t233 t234 t235 t236 t237 t238 t239 t240 t241 t242 t243 t244 t245 t246 t247 t248 t249 t250 t251 t252 t253 t254 t255 t256 t257 t258 t259 t260 t261 t262 t263 t264 t265 t266 t267 t268 t269 t270 t271 t272 t273 t274 t275 t276 t277 t278 t279 t280 t281 t282 t283 t284 t285 t286 t287 t288 t289 t290 t291 t292 t293 t294 t295 t296 t297 : Value} {K : Act → World → Prop} {Q : Exit → Act → World → Prop} {w : World} {b1 gh ch gt ck ga ca n : Nat} (al : List Int) (hBL : ByteL al) (M : Nat) (hM : al.length = 64 * M) (hn : al.length = n) (hl : n ≤ 200000)
    (hH : Kd.R (Kd.int .u32) 43 w b1 (fun k => k = gh) (.slice (some ⟨gh, 0, none⟩) 8 ch) stH.list) (hT : ∀ j : Nat, j < 64 → w.cell? ⟨gt, j, none⟩ = some (.int .u32 (rd rootsK j))) (hgt : gt < w.heap.size) (hgtne : gt ≠ gh) (hA : ∀ j : Nat, j < n → w.cell? ⟨ga, j, none⟩ = some (.int .u8 (rd al j))) (hga : ga < w.heap.size) (hgane : ga ≠ gh) (hgh : gh < w.heap.size)
    (hK : ∀ (u8 u9 u10 u11 u12 u13 u14 u15 u16 u17 u18 u53 u54 u55 u56 u57 u58 u59 u60 u61 u62 u63 u64 u65 u66 u67 u68 u69 u70 u71 u72 u73 u74 u75 u76 u77 u78 u79 u80 u81 u82 u83 u84 u85 u86 u87 u88 u89 u90 u91 u92 u93 u94 u95 u96 u97 u98 u99 u100 u101 u102 u103 u104 u105 u106 u107 u108 u109 u110 u111 u112 u113 u114 u115 u116 u117 u118 u119 u120 u121 u122 u123 u124 u125 u126 u127 u128 u129 u130 u131 u132 u133 u134 u135 u136 u137 u138 u139 u140 u141 u142 u143 u144 u145 u146 u147 u148 u149 u150 u151 u152 u153 u154 u155 u156 u157 u158 u159 u160 u161 u162 u163 u164 u165 u166 u167 u168 u169 u170 u171 u172 u173 u174 u175 u176 u177 u178 u179 u180 u181 u182 u183 u184 u185 u186 u187 u188 u189 u190 u191 u192 u193 u194 u195 u196 u197 u198 u199 u200 u201 u202 u203 u204 u205 u206 u207 u208 u209 u210 u211 u212 u213 u214 u215 u216 u217 u218 u219 u220 u221 u222 u223 u224 u225 u226 u227 u228 u229 u230 u231 u232 u233 u234 u235 u236 u237 u238 u239 u240 u241 u242 u243 u244 u245 u246 u247 u248 u249 u250 u251 u252 u253 u254 u255 u256 u257 u258 u259 u260 u261 u262 u263 u264 u265 u266 u267 u268 u269 u270 u271 u272 u273 u274 u275 u276 u277 u278 u279 : Value) (w' : World), Kd.R (Kd.int .u32) 43 w' b1 (fun k => k = gh) (.slice (some ⟨gh, 0, none⟩) 8 ch) (absorb stH al).1.list → w.grownBy w' (some gh) → K ⟨#[t0, t1, t2, .slice (some ⟨gh, 0, none⟩) 8 ch, .slice (some ⟨gt, 0, none⟩) 64 ck, .slice (some ⟨ga, 0, none⟩) n ca, t6, t7, u8, u9, u10, u11, u12, u13, u14, u15, u16, u17, u18, t19, t20, t21, t22, t23, t24, t25, t26, t27, t28, t29, t30, t31, t32, t33, t34, t35, t36, t37, t38, t39, t40, t41, t42, t43, t44, t45, t46, t47, t48, t49, t50, t51, t52, u53, u54, u55, u56, u57, u58, u59, u60, u61, u62, u63, u64, u65, u66, u67, u68, u69, u70, u71, u72, u73, u74, u75, u76, u77, u78, u79, u80, u81, u82, u83, u84, u85, u86, u87, u88, u89, u90, u91, u92, u93, u94, u95, u96, u97, u98, u99, u100, u101, u102, u103, u104, u105, u106, u107, u108, u109, u110, u111, u112, u113, u114, u115, u116, u117, u118, u119, u120, u121, u122, u123, u124, u125, u126, u127, u128, u129, u130, u131, u132, u133, u134, u135, u136, u137, u138, u139, u140, u141, u142, u143, u144, u145, u146, u147, u148, u149, u150, u151, u152, u153, u154, u155, u156, u157, u158, u159, u160, u161, u162, u163, u164, u165, u166, u167, u168, u169, u170, u171, u172, u173, u174, u175, u176, u177, u178, u179, u180, u181, u182, u183, u184, u185, u186, u187, u188, u189, u190, u191, u192, u193, u194, u195, u196, u197, u198, u199, u200, u201, u202, u203, u204, u205, u206, u207, u208, u209, u210, u211, u212, u213, u214, u215, u216, u217, u218, u219, u220, u221, u222, u223, u224, u225, u226, u227, u228, u229, u230, u231, u232, u233, u234, u235, u236, u237, u238, u239, u240, u241, u242, u243, u244, u245, u246, u247, u248, u249, u250, u251, u252, u253, u254, u255, u256, u257, u258, u259, u260, u261, u262, u263, u264, u265, u266, u267, u268, u269, u270, u271, u272, u273, u274, u275, u276, u277, u278, u279, t280, t281, t282, t283, t284, t285, t286, t287, t288, t289, t290, t291, t292, t293, t294, t295, t296, t297], []⟩ w') :
    Code.wp Try.prog (bk 4) (Exit.then K Q) ⟨#[t0, t1, t2, .slice (some ⟨gh, 0, none⟩) 8 ch, .slice (some ⟨gt, 0, none⟩) 64 ck, .slice (some ⟨ga, 0, none⟩) n ca, t6, t7, .int .i64 0, t9, t10, t11, t12, t13, t14, t15, t16, t17, t18, t19, t20, t21, t22, t23, t24, t25, t26, t27, t28, t29, t30, t31, t32, t33, t34, t35, t36, t37, t38, t39, t40, t41, t42, t43, t44, t45, t46, t47, t48, t49, t50, t51, t52, t53, t54, t55, t56, t57, t58, t59, t60, t61, t62, t63, t64, t65, t66, t67, t68, t69, t70, t71, t72, t73, t74, t75, t76, t77, t78, t79, t80, t81, t82, t83, t84, t85, t86, t87, t88, t89, t90, t91, t92, t93, t94, t95, t96, t97, t98, t99, t100, t101, t102, t103, t104, t105, t106, t107, t108, t109, t110, t111, t112, t113, t114, t115, t116, t117, t118, t119, t120, t121, t122, t123, t124, t125, t126, t127, t128, t129, t130, t131, t132, t133, t134, t135, t136, t137, t138, t139, t140, t141, t142, t143, t144, t145, t146, t147, t148, t149, t150, t151, t152, t153, t154, t155, t156, t157, t158, t159, t160, t161, t162, t163, t164, t165, t166, t167, t168, t169, t170, t171, t172, t173, t174, t175, t176, t177, t178, t179, t180, t181, t182, t183, t184, t185, t186, t187, t188, t189, t190, t191, t192, t193, t194, t195, t196, t197, t198, t199, t200, t201, t202, t203, t204, t205, t206, t207, t208, t209, t210, t211, t212, t213, t214, t215, t216, t217, t218, t219, t220, t221, t222, t223, t224, t225, t226, t227, t228, t229, t230, t231, t232, t233, t234, t235, t236, t237, t238, t239, t240, t241, t242, t243, t244, t245, t246, t247, t248, t249, t250, t251, t252, t253, t254, t255, t256, t257, t258, t259, t260, t261, t262, t263, t264, t265, t266, t267, t268, t269, t270, t271, t272, t273, t274, t275, t276, t277, t278, t279, t280, t281, t282, t283, t284, t285, t286, t287, t288, t289, t290, t291, t292, t293, t294, t295, t296, t297], []⟩ w := by
  have HH : Aside0 (Kd.R (Kd.int .u32) 43 w b1 (fun k => k = gh) (.slice (some ⟨gh, 0, none⟩) 8 ch) (stN al 0).list) := ⟨hH⟩
  have HT := Aside0.mk hT
  have HA := Aside0.mk hA
  have HK := Aside0.mk hK
  have HG := Aside0.mk (World.grownBy.refl w (some gh))
  have HBL := Aside0.mk hBL
  have HMM := Aside0.mk hM
  have HN := Aside0.mk hn
  clear hH hT hA hK hBL hM hn
  conv => arg 2; whnf
  dsimp only
  go_wp2_with (fail)
  go_loopg [8] M (fun gg s8 wq => ∃ m p : Nat, m ≤ M ∧ M - m ≤ gg ∧ s8 = .int .i64 p ∧ p = 64 * m ∧ Aside0 (Kd.R (Kd.int .u32) 43 wq b1 (fun k => k = gh) (.slice (some ⟨gh, 0, none⟩) 8 ch) (stN al m).list) ∧ Aside0 (w.grownBy wq (some gh)))
  case atStart => exact ⟨0, 0, by omega, by omega, rfl, rfl, HH, HG⟩
  case round =>
    clear HH HG
    obtain ⟨m, p, hm, hgg, rfl, hp, HX, HG⟩ := hrel
    by_cases hlt : m < M
    · have hpn : p + 64 ≤ n := by have := HMM.out; have := HN.out; omega
      have hpz : (p : Int) < (n : Int) := by omega
      have HM := Aside0.mk (show M - (m + 1) < gk by omega)
      obtain ⟨B, hB⟩ : ∃ B, B = (al.drop (64 * m)).take 64 := ⟨_, rfl⟩
      have hBL : ByteL B := by rw [hB]; exact byteL_mid HBL.out _ _
      have hpc : ∀ j : Nat, j < 64 → wr.cell? ⟨ga, p + j, none⟩ = some (.int .u8 (rd B j)) := fun j hj => by
        rw [hB, ← hp, rd_block al p j hj]
        exact (World.cell?_of_block (a := ⟨ga, p + j, none⟩) (HG.out.block ga hga (fun e => hgane (by injection e)))).trans (HA.out (p + j) (by omega))
      have hkr : ∀ j : Nat, j < 64 → wr.cell? ⟨gt, j, none⟩ = some (.int .u32 (rd rootsK j)) := fun j hj =>
        (World.cell?_of_block (a := ⟨gt, j, none⟩) (HG.out.block gt hgt (fun e => hgtne (by injection e)))).trans (HT.out j hj)
      have hrs := HG.out.size
      have HPC := Aside0.mk hpc
      have HKR := Aside0.mk hkr
      have HBB := Aside0.mk hB
      have HP := Aside0.mk hp
      have HLT := Aside0.mk hlt
      clear hpc hkr hB hp hlt hgg hm
      go_upto_block 5 with (fail)
      refine walk5 (ca := ca) (ck := ck) B hBL (stN al m) HX.out HKR.out (by omega) HPC.out (by omega) (by omega) hpn hl ?_
      intro y9 y10 y11 y12 y13 y14 y15 y16 y17 y18 y59 y60 y61 y62 y63 y64 y65 y66 y67 y68 y69 y70 y71 y72 y73 y74 y75 y76 y77 y78 y79 y80 y81 y82 y83 y84 y85 y86 y87 y88 y89 y90 y91 y92 y93 y94 y95 y96 y97 y98 y99 y100 y101 y102 y103 y104 y105 y106 y107 y108 y109 y110 y111 y112 y113 y114 y115 y116 y117 y118 y119 y120 y121 y122 y123 y124 y125 y126 y127 y128 y129 y130 y131 y132 y133 y134 y135 y136 y137 y138 y139 y140 y141 y142 y143 y144 y145 y146 y147 y148 y149 y150 y151 y152 y153 y154 y155 y156 y157 y158 y159 y160 y161 y162 y163 y164 y165 y166 y167 y168 y169 y170 y171 y172 y173 y174 y175 y176 y177 y178 y179 y180 y181 y182 y183 y184 y185 y186 y187 y188 y189 y190 y191 y192 y193 y194 y195 y196 y197 y198 y199 y200 y201 y202 y203 y204 y205 y206 y207 y208 y209 y210 y211 y212 y213 y214 y215 y216 y217 y218 y219 y220 y221 y222 y223 y224 y225 y226 y227 y228 y229 y230 y231 y232 y233 y234 y235 y236 y237 y238 y239 y240 y241 y242 y243 y244 y245 y246 y247 y248 y249 y250 y251 y252 y253 y254 y255 y256 y257 y258 y259 y260 y261 y262 y263 y264 y265 y266 y267 y268 y269 y270 y271 y272 y273 y274 y275 y276 y277 y278 y279 w' hR hG'
      have HR := Aside0.mk hR
      have HG' := Aside0.mk (grown_then HG.out hG')
      clear hR hG'
      go_wp2_with (fail)
      go_roundg (M - (m + 1))
      case measure => exact HM.out
      case rel =>
        have hR := HR.out
        rw [HBB.out] at hR
        exact ⟨m + 1, p + 64, HLT.out, Nat.le_refl _, by push_cast; rfl, by have := HP.out; omega, ⟨hR⟩, HG'⟩
    · have hmM : m = M := by omega
      have hpn : p = n := by have := HMM.out; have := HN.out; omega
      have HME := Aside0.mk hmM
      subst hpn
      clear hmM hm hp hlt hgg
      go_wp2_with (fail)
      refine HK.out _ _ _ _ _ _ _ _ _ _ _ _ _ _ _ _ _ _ _ _ _ _ _ _ _ _ _ _ _ _ _ _ _ _ _ _ _ _ _ _ _ _ _ _ _ _ _ _ _ _ _ _ _ _ _ _ _ _ _ _ _ _ _ _ _ _ _ _ _ _ _ _ _ _ _ _ _ _ _ _ _ _ _ _ _ _ _ _ _ _ _ _ _ _ _ _ _ _ _ _ _ _ _ _ _ _ _ _ _ _ _ _ _ _ _ _ _ _ _ _ _ _ _ _ _ _ _ _ _ _ _ _ _ _ _ _ _ _ _ _ _ _ _ _ _ _ _ _ _ _ _ _ _ _ _ _ _ _ _ _ _ _ _ _ _ _ _ _ _ _ _ _ _ _ _ _ _ _ _ _ _ _ _ _ _ _ _ _ _ _ _ _ _ _ _ _ _ _ _ _ _ _ _ _ _ _ _ _ _ _ _ _ _ _ _ _ _ _ _ _ _ _ _ _ _ _ _ _ _ _ _ _ _ _ _ _ _ _  _ ?_ HG.out
      rw [stN_absorb al M HMM.out, ← HME.out]
      exact HX.out
end Go.Proofs.Ytocnkfepiknglaa.PAll
