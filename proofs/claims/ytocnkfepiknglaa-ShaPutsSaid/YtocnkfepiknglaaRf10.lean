/- The reference's Sum: the rounds of a block. -/
import Derived.Test.YtocnkfepiknglaaRf6
namespace Go.Proofs.Ytocnkfepiknglaa.PAll
open Go.RowKit Go.Shelf Go.Proofs.YtocnkfepiknglaaW.PrintWords Go.Proofs.YtocnkfepiknglaaW.PrintLast Go.Proofs.YtocnkfepiknglaaW.PrintMore
set_option linter.unusedVariables false
set_option linter.unusedSimpArgs false

theorem eight_cells {w : World} {base : Nat} {ok : Nat → Prop} {v : Value} (z : St) (h : Kd.R (Kd.int .u32) 43 w base ok v z.list) :
    ∃ g c, v = .slice (some ⟨g, 0, none⟩) 8 c ∧ base ≤ g ∧ g < w.heap.size ∧ w.cell? ⟨g, 0, none⟩ = some (.int .u32 z.a) ∧ w.cell? ⟨g, 1, none⟩ = some (.int .u32 z.b) ∧ w.cell? ⟨g, 2, none⟩ = some (.int .u32 z.c) ∧ w.cell? ⟨g, 3, none⟩ = some (.int .u32 z.d) ∧ w.cell? ⟨g, 4, none⟩ = some (.int .u32 z.e) ∧ w.cell? ⟨g, 5, none⟩ = some (.int .u32 z.f) ∧ w.cell? ⟨g, 6, none⟩ = some (.int .u32 z.g) ∧ w.cell? ⟨g, 7, none⟩ = some (.int .u32 z.h) := by
  obtain ⟨g, c, hv, h1, h2, _, hc⟩ := rowcells h (show 0 < 8 by decide)
  exact ⟨g, c, hv, h1, h2, hc 0 (show 0 < 8 by decide), hc 1 (show 1 < 8 by decide), hc 2 (show 2 < 8 by decide), hc 3 (show 3 < 8 by decide), hc 4 (show 4 < 8 by decide), hc 5 (show 5 < 8 by decide), hc 6 (show 6 < 8 by decide), hc 7 (show 7 < 8 by decide)⟩
theorem u32_reps (xs : List Int) (w : World) (base : Nat) (ok : Nat → Prop) : Reps ((Kd.int .u32).M w base ok) 1 xs (xs.map (Value.int .u32)) := by
  refine ⟨by rw [List.length_map, Nat.mul_one], fun j p hj => ?_⟩
  show ((xs.map (Value.int .u32)).drop (j * 1)).take 1 = [Value.int .u32 p]
  rw [Nat.mul_one]
  have h1 : (xs.map (Value.int .u32))[j]? = some (.int .u32 p) := by rw [List.getElem?_map, hj]; rfl
  have hlt := (List.getElem?_eq_some_iff.1 h1).1
  rw [List.drop_eq_getElem_cons hlt, List.take_succ_cons, List.take_zero]
  rw [List.getElem?_eq_getElem hlt] at h1
  injection h1 with h1
  rw [h1]
theorem R_new32 (W : World) (base : Nat) (hb : base ≤ W.heap.size) (xs : List Int) (hm : xs.length ≤ 1000) : Kd.R (Kd.int .u32) 43 (W.alloc (.cells (xs.map (Value.int .u32)).toArray 43)) base (fun _ => True) (.slice (some ⟨W.heap.size, 0, none⟩) xs.length xs.length) xs := by
  refine ⟨fun _ _ => trivial, xs.map (Value.int .u32), ?_, u32_reps xs _ _ _⟩
  have h2 := World.ownsRow_lit (base := base) (e := 43) (size := 1) W (xs.map (Value.int .u32)).toArray xs.length hb (by unfold maxLen; omega) (by simp)
  simp only [List.toList_toArray] at h2
  exact h2
theorem rnd_list (W : List Int) (s : St) (i : Nat) (z : St) (o1 o2 : Int) (hz : z = rnds rootsK W s i) (h1 : o1 = one z (rd rootsK (i : Int)) (rd W (i : Int))) (h2 : o2 = two z) : (rnds rootsK W s (i + 1)).list = [(o1 + o2) % 4294967296, z.a, z.b, z.c, (z.d + o1) % 4294967296, z.e, z.f, z.g] := by
  subst h1 h2 hz
  rfl

set_option maxHeartbeats 8000000 in
set_option maxRecDepth 1000000 in
theorem walk10 {t0 t1 t2 t3 t5 t6 t7 t8 t10 t11 t12 t13 t16 t17 t18 t19 t20 t21 t22 t23 t24 t25 t26 t27 t28 t29 t30 t31 t32 t33 t34 t35 t36 t37 t38 t39 t40 t41 t42 t43 t44 t45 t46 t47 t48 t49 t50 t51 t52 t53 t54 t55 t56 t57 t58 t59 t60 t61 t62 t63 t64 t65 t66 t67 t68 t69 t70 t71 t72 t73 t74 t75 t76 t77 t78 t79 t80 t81 t82 t83 t84 t85 t86 t87 t88 t89 t90 t91 t92 t93 t94 t95 t96 t97 t98 t99 t100 t101 t102 t103 t104 t105 t106 t107 t108 t109 t110 t111 t112 t113 t114 t115 t116 t117 t118 t119 t120 t121 t122 t123 t124 t125 t126 t127 t128 t129 t130 t131 t132 t133 t134 t135 t136 t137 t138 t139 t140 t141 t142 t143 t144 t145 t146 t147 t148 t149 t150 t151 t152 t153 t154 t155 t156 t157 t158 t159 t160 t161 t162 t163 t164 t165 t166 t167 t168 t169 t170 t171 t172 t173 t174 t175 t176 t177 t178 t179 t180 t181 t182 t183 t184 t185 t186 t187 t188 t189 t190 t191 t192 t193 t194 t195 t196 t197 t198 t199 t200 t201 t202 t203 t204 t205 t206 t207 t208 t209 t210 t211 t212 t213 t214 t215 t216 t217 t218 t219 t220 t221 t222 t223 t224 t225 t226 t227 t228 t229 t230 t231 t232 t233 t234 t235 t236 t237 t238 t239 t240 t241 t242 t243 t244 t245 t246 t247 t248 t249 t250 t251 t252 t253 t254 t255 t256 t257 t258 t259 t260 t261 t262 t263 t264 t265 t266 t267 t268 t269 t270 t271 t272 t273 t274 t275 t276 t277 t278 t279 t280 t281 t282 t283 t284 t285 t286 t287 t288 t289 t290 t291 t292 t293 t294 t295 t296 t297 v14 : Value} {K : Act → World → Prop} {Q : Exit → Act → World → Prop} {w : World} {b0 gt ck gw cw : Nat} (W : List Int) (s : St)
    (hV : Kd.R (Kd.int .u32) 43 w b0 (fun _ => True) v14 s.list) (hT : ∀ j : Nat, j < 64 → w.cell? ⟨gt, j, none⟩ = some (.int .u32 (rd rootsK j))) (hgt : gt < w.heap.size) (hW : ∀ j : Nat, j < 64 → w.cell? ⟨gw, j, none⟩ = some (.int .u32 (rd W j))) (hgw : gw < w.heap.size) (hb0 : b0 ≤ w.heap.size)
    (hK : ∀ (u15 u16 u17 u150 u151 u152 u153 u154 u155 u156 u157 u158 u159 u160 u161 u162 u163 u164 u165 u166 u167 u168 u169 u170 u171 u172 u173 u174 u175 u176 u177 u178 u179 u180 u181 u182 u183 u184 u185 u186 u187 u188 u189 u190 u191 u192 u193 u194 u195 u196 u197 u198 u199 u200 u201 u202 u203 u204 u205 u206 u207 u208 u209 u210 u211 u212 u213 u214 u215 u216 u217 u218 u219 u220 u221 u222 u223 u224 u225 u226 u227 u228 u229 u230 u231 u232 u233 u234 u235 u236 u237 u238 u239 u240 u241 u242 u243 u244 u245 u246 u247 u248 u249 u250 u251 u252 u253 u254 u255 u256 u257 u258 u259 u260 u261 u262 u263 v' : Value) (w' : World), Kd.R (Kd.int .u32) 43 w' b0 (fun _ => True) v' (rnds rootsK W s 64).list → Below w.heap.size w w' → K ⟨#[t0, t1, t2, t3, .slice (some ⟨gt, 0, none⟩) 64 ck, t5, t6, t7, t8, .slice (some ⟨gw, 0, none⟩) 64 cw, t10, t11, t12, t13, v', u15, u16, u17, t18, t19, t20, t21, t22, t23, t24, t25, t26, t27, t28, t29, t30, t31, t32, t33, t34, t35, t36, t37, t38, t39, t40, t41, t42, t43, t44, t45, t46, t47, t48, t49, t50, t51, t52, t53, t54, t55, t56, t57, t58, t59, t60, t61, t62, t63, t64, t65, t66, t67, t68, t69, t70, t71, t72, t73, t74, t75, t76, t77, t78, t79, t80, t81, t82, t83, t84, t85, t86, t87, t88, t89, t90, t91, t92, t93, t94, t95, t96, t97, t98, t99, t100, t101, t102, t103, t104, t105, t106, t107, t108, t109, t110, t111, t112, t113, t114, t115, t116, t117, t118, t119, t120, t121, t122, t123, t124, t125, t126, t127, t128, t129, t130, t131, t132, t133, t134, t135, t136, t137, t138, t139, t140, t141, t142, t143, t144, t145, t146, t147, t148, t149, u150, u151, u152, u153, u154, u155, u156, u157, u158, u159, u160, u161, u162, u163, u164, u165, u166, u167, u168, u169, u170, u171, u172, u173, u174, u175, u176, u177, u178, u179, u180, u181, u182, u183, u184, u185, u186, u187, u188, u189, u190, u191, u192, u193, u194, u195, u196, u197, u198, u199, u200, u201, u202, u203, u204, u205, u206, u207, u208, u209, u210, u211, u212, u213, u214, u215, u216, u217, u218, u219, u220, u221, u222, u223, u224, u225, u226, u227, u228, u229, u230, u231, u232, u233, u234, u235, u236, u237, u238, u239, u240, u241, u242, u243, u244, u245, u246, u247, u248, u249, u250, u251, u252, u253, u254, u255, u256, u257, u258, u259, u260, u261, u262, u263, t264, t265, t266, t267, t268, t269, t270, t271, t272, t273, t274, t275, t276, t277, t278, t279, t280, t281, t282, t283, t284, t285, t286, t287, t288, t289, t290, t291, t292, t293, t294, t295, t296, t297], []⟩ w') :
    Code.wp Try.prog (bk 10) (Exit.then K Q) ⟨#[t0, t1, t2, t3, .slice (some ⟨gt, 0, none⟩) 64 ck, t5, t6, t7, t8, .slice (some ⟨gw, 0, none⟩) 64 cw, t10, t11, t12, t13, v14, .int .i64 0, t16, t17, t18, t19, t20, t21, t22, t23, t24, t25, t26, t27, t28, t29, t30, t31, t32, t33, t34, t35, t36, t37, t38, t39, t40, t41, t42, t43, t44, t45, t46, t47, t48, t49, t50, t51, t52, t53, t54, t55, t56, t57, t58, t59, t60, t61, t62, t63, t64, t65, t66, t67, t68, t69, t70, t71, t72, t73, t74, t75, t76, t77, t78, t79, t80, t81, t82, t83, t84, t85, t86, t87, t88, t89, t90, t91, t92, t93, t94, t95, t96, t97, t98, t99, t100, t101, t102, t103, t104, t105, t106, t107, t108, t109, t110, t111, t112, t113, t114, t115, t116, t117, t118, t119, t120, t121, t122, t123, t124, t125, t126, t127, t128, t129, t130, t131, t132, t133, t134, t135, t136, t137, t138, t139, t140, t141, t142, t143, t144, t145, t146, t147, t148, t149, t150, t151, t152, t153, t154, t155, t156, t157, t158, t159, t160, t161, t162, t163, t164, t165, t166, t167, t168, t169, t170, t171, t172, t173, t174, t175, t176, t177, t178, t179, t180, t181, t182, t183, t184, t185, t186, t187, t188, t189, t190, t191, t192, t193, t194, t195, t196, t197, t198, t199, t200, t201, t202, t203, t204, t205, t206, t207, t208, t209, t210, t211, t212, t213, t214, t215, t216, t217, t218, t219, t220, t221, t222, t223, t224, t225, t226, t227, t228, t229, t230, t231, t232, t233, t234, t235, t236, t237, t238, t239, t240, t241, t242, t243, t244, t245, t246, t247, t248, t249, t250, t251, t252, t253, t254, t255, t256, t257, t258, t259, t260, t261, t262, t263, t264, t265, t266, t267, t268, t269, t270, t271, t272, t273, t274, t275, t276, t277, t278, t279, t280, t281, t282, t283, t284, t285, t286, t287, t288, t289, t290, t291, t292, t293, t294, t295, t296, t297], []⟩ w := by
  have HV : Aside0 (Kd.R (Kd.int .u32) 43 w b0 (fun _ => True) v14 (rnds rootsK W s 0).list) := ⟨hV⟩
  have HT := Aside0.mk hT
  have HW := Aside0.mk hW
  have HK := Aside0.mk hK
  have HB := Aside0.mk (Below.refl w.heap.size w)
  clear hV hT hW hK
  conv => arg 2; whnf
  go_wp2_with (fail)
  go_loopg [14, 15] 64 (fun gg s14 s15 wq => ∃ i : Nat, i ≤ 64 ∧ 64 - i ≤ gg ∧ s15 = .int .i64 i ∧ Aside0 (Kd.R (Kd.int .u32) 43 wq b0 (fun _ => True) s14 (rnds rootsK W s i).list) ∧ Aside0 (Below w.heap.size w wq))
  case atStart => exact ⟨0, by omega, by omega, rfl, HV, HB⟩
  case round =>
    clear HV HB
    obtain ⟨i, hi, hgg, rfl, HV, HB⟩ := hrel
    by_cases hlt : i < 64
    · have hiz : (i : Int) < 64 := by omega
      have HM := Aside0.mk (show 64 - (i + 1) < gk by omega)
      obtain ⟨z, hz⟩ : ∃ z, z = rnds rootsK W s i := ⟨_, rfl⟩
      have hv := HV.out
      rw [← hz] at hv
      obtain ⟨gv, cv, hsv, hgv0, yl, y0, y1, y2, y3, y4, y5, y6, y7⟩ := eight_cells z hv
      subst hsv
      have tk := (HB.out.cell (p := ⟨gt, i, none⟩) hgt).trans (HT.out i hlt)
      have wk := (HB.out.cell (p := ⟨gw, i, none⟩) hgw).trans (HW.out i hlt)
      have HZ := Aside0.mk hz
      have HLT := Aside0.mk hlt
      clear hv hz hgg hi HV hlt
      go_upto_region 29 with (fail)
      go_region_held3 (fun w' => w'.cell? ⟨gv, 4, none⟩ = some (.int .u32 z.e) ∧ w'.cell? ⟨gv, 5, none⟩ = some (.int .u32 z.f) ∧ w'.cell? ⟨gv, 6, none⟩ = some (.int .u32 z.g) ∧ w'.cell? ⟨gv, 7, none⟩ = some (.int .u32 z.h) ∧ w'.cell? ⟨gt, i, none⟩ = some (.int .u32 (rd rootsK (i : Int))) ∧ w'.cell? ⟨gw, i, none⟩ = some (.int .u32 (rd W (i : Int)))) (first | exact ⟨y4, y5, y6, y7, tk, wk⟩ | go_keep) (first | (go_at_call 18; (with_reducible refine (latchkeyref03_turn.calls z.e 6 _ _ (turn6 z.e)).mono ?_); rintro e w' ⟨rfl, ⟨q, rfl⟩⟩) | (go_at_call 18; (with_reducible refine (latchkeyref03_turn.calls z.e 11 _ _ (turn11 z.e)).mono ?_); rintro e w' ⟨rfl, ⟨q, rfl⟩⟩) | (go_at_call 18; (with_reducible refine (latchkeyref03_turn.calls z.e 25 _ _ (turn25 z.e)).mono ?_); rintro e w' ⟨rfl, ⟨q, rfl⟩⟩))
      rename_i qa qb hHd
      clear hHd
      have z0 : (wr.drewN (1 + qa + qb + q)).cell? ⟨gv, 0, none⟩ = _ := y0
      have z1 : (wr.drewN (1 + qa + qb + q)).cell? ⟨gv, 1, none⟩ = _ := y1
      have z2 : (wr.drewN (1 + qa + qb + q)).cell? ⟨gv, 2, none⟩ = _ := y2
      have z3 : (wr.drewN (1 + qa + qb + q)).cell? ⟨gv, 3, none⟩ = _ := y3
      have z4 : (wr.drewN (1 + qa + qb + q)).cell? ⟨gv, 4, none⟩ = _ := y4
      have z5 : (wr.drewN (1 + qa + qb + q)).cell? ⟨gv, 5, none⟩ = _ := y5
      have z6 : (wr.drewN (1 + qa + qb + q)).cell? ⟨gv, 6, none⟩ = _ := y6
      have z7 : (wr.drewN (1 + qa + qb + q)).cell? ⟨gv, 7, none⟩ = _ := y7
      have HBz : Aside0 (Below w.heap.size w (wr.drewN (1 + qa + qb + q))) := ⟨below_drewN1 HB.out _⟩
      have zl : gv < (wr.drewN (1 + qa + qb + q)).heap.size := yl
      clear y0 y1 y2 y3 y4 y5 y6 y7 yl tk wk HB
      generalize wr.drewN (1 + qa + qb + q) = wv at z0 z1 z2 z3 z4 z5 z6 z7 zl HBz ⊢
      obtain ⟨o1, ho1⟩ : ∃ o1, o1 = one z (rd rootsK (i : Int)) (rd W (i : Int)) := ⟨_, rfl⟩
      unfold one at ho1
      rw [← ho1]
      have HO1 := Aside0.mk ho1
      clear ho1
      go_upto_region 30 with (fail)
      go_region_held3 (fun w' => w'.cell? ⟨gv, 0, none⟩ = some (.int .u32 z.a) ∧ w'.cell? ⟨gv, 1, none⟩ = some (.int .u32 z.b) ∧ w'.cell? ⟨gv, 2, none⟩ = some (.int .u32 z.c)) (first | exact ⟨z0, z1, z2⟩ | go_keep) (first | (go_at_call 18; (with_reducible refine (latchkeyref03_turn.calls z.a 2 _ _ (turn2 z.a)).mono ?_); rintro e w' ⟨rfl, ⟨q, rfl⟩⟩) | (go_at_call 18; (with_reducible refine (latchkeyref03_turn.calls z.a 13 _ _ (turn13 z.a)).mono ?_); rintro e w' ⟨rfl, ⟨q, rfl⟩⟩) | (go_at_call 18; (with_reducible refine (latchkeyref03_turn.calls z.a 22 _ _ (turn22 z.a)).mono ?_); rintro e w' ⟨rfl, ⟨q, rfl⟩⟩))
      rename_i qc qd hHd
      clear hHd
      have x0 : (wv.drewN (1 + qc + qd + q)).cell? ⟨gv, 0, none⟩ = _ := z0
      have x1 : (wv.drewN (1 + qc + qd + q)).cell? ⟨gv, 1, none⟩ = _ := z1
      have x2 : (wv.drewN (1 + qc + qd + q)).cell? ⟨gv, 2, none⟩ = _ := z2
      have x3 : (wv.drewN (1 + qc + qd + q)).cell? ⟨gv, 3, none⟩ = _ := z3
      have x4 : (wv.drewN (1 + qc + qd + q)).cell? ⟨gv, 4, none⟩ = _ := z4
      have x5 : (wv.drewN (1 + qc + qd + q)).cell? ⟨gv, 5, none⟩ = _ := z5
      have x6 : (wv.drewN (1 + qc + qd + q)).cell? ⟨gv, 6, none⟩ = _ := z6
      have x7 : (wv.drewN (1 + qc + qd + q)).cell? ⟨gv, 7, none⟩ = _ := z7
      have HBx : Aside0 (Below w.heap.size w (wv.drewN (1 + qc + qd + q))) := ⟨below_drewN1 HBz.out _⟩
      have xl : gv < (wv.drewN (1 + qc + qd + q)).heap.size := zl
      clear z0 z1 z2 z3 z4 z5 z6 z7 zl HBz
      generalize wv.drewN (1 + qc + qd + q) = wu at x0 x1 x2 x3 x4 x5 x6 x7 xl HBx ⊢
      obtain ⟨o2, ho2⟩ : ∃ o2, o2 = two z := ⟨_, rfl⟩
      unfold two at ho2
      rw [← ho2]
      have HO2 := Aside0.mk ho2
      clear ho2
      go_upto_region 31 with (fail)
      go_still_tail 26, (by kernel_rfl)
      change wpList _ _ _ _ _ wu.drew
      have HBy : Aside0 (Below w.heap.size w wu.drew) := ⟨below_drew1 HBx.out⟩
      have hbs : b0 ≤ wu.drew.heap.size := Nat.le_trans hb0 HBx.out.size
      clear x0 x1 x2 x3 x4 x5 x6 x7 xl HBx
      generalize wu.drew = wt at HBy hbs ⊢
      go_wp2
      have e : (rnds rootsK W s (i + 1)).list = [(o1 + o2) % 4294967296, z.a, z.b, z.c, (z.d + o1) % 4294967296, z.e, z.f, z.g] := rnd_list W s i z o1 o2 HZ.out HO1.out HO2.out
      have hr : Kd.R (Kd.int .u32) 43 (wt.alloc (.cells #[.int .u32 ((o1 + o2) % 4294967296), .int .u32 z.a, .int .u32 z.b, .int .u32 z.c, .int .u32 ((z.d + o1) % 4294967296), .int .u32 z.e, .int .u32 z.f, .int .u32 z.g] 43)) b0 (fun _ => True) (.slice (some ⟨wt.heap.size, 0, none⟩) 8 8) (rnds rootsK W s (i + 1)).list := by
        rw [e]
        exact R_new32 wt b0 hbs [(o1 + o2) % 4294967296, z.a, z.b, z.c, (z.d + o1) % 4294967296, z.e, z.f, z.g] (show 8 ≤ 1000 by decide)
      have HR := Aside0.mk hr
      have HBa := Aside0.mk (below_alloc HBy.out (.cells #[.int .u32 ((o1 + o2) % 4294967296), .int .u32 z.a, .int .u32 z.b, .int .u32 z.c, .int .u32 ((z.d + o1) % 4294967296), .int .u32 z.e, .int .u32 z.f, .int .u32 z.g] 43))
      clear hr e
      go_roundg (64 - (i + 1))
      case measure => exact HM.out
      case rel => exact ⟨i + 1, HLT.out, Nat.le_refl _, by push_cast; rfl, ⟨HR.out⟩, ⟨HBa.out⟩⟩
    · obtain rfl : i = 64 := by omega
      go_wp2_with (fail)
      exact HK.out _ _ _ _ _ _ _ _ _ _ _ _ _ _ _ _ _ _ _ _ _ _ _ _ _ _ _ _ _ _ _ _ _ _ _ _ _ _ _ _ _ _ _ _ _ _ _ _ _ _ _ _ _ _ _ _ _ _ _ _ _ _ _ _ _ _ _ _ _ _ _ _ _ _ _ _ _ _ _ _ _ _ _ _ _ _ _ _ _ _ _ _ _ _ _ _ _ _ _ _ _ _ _ _ _ _ _ _ _ _ _ _ _ _ _ _ _  _ _ HV.out HB.out
end Go.Proofs.Ytocnkfepiknglaa.PAll
