/- The reference's Sum: its statements' codes; the words added behind a block. The reference's Sum: four bytes to a word. The reference's Sum: the bytes of the words. -/
import Derived.Test.YtocnkfepiknglaaEq32
import Derived.Test.YtocnkfepiknglaaShaF
import Derived.Test.YtocnkfepiknglaaRot
import Derived.BigRegion
import Derived.StillTailTactics
import Derived.Deep.CutBlock
namespace Go.Proofs.Ytocnkfepiknglaa.PAll
open Go.RowKit Go.Shelf Go.Proofs.YtocnkfepiknglaaW.PrintWords Go.Proofs.YtocnkfepiknglaaW.PrintLast Go.Proofs.YtocnkfepiknglaaW.PrintMore
set_option linter.unusedVariables false
set_option linter.unusedSimpArgs false

/-- Block n of a code. -/
def blockAt (n : Nat) : Code → Option Code
  | .block m c => if m = n then some (.block m c) else blockAt n c
  | .seq a b => match blockAt n a with
    | some c => some c
    | none => blockAt n b
  | .loop c => blockAt n c
  | .scope c => blockAt n c
  | .cond _ a b => match blockAt n a with
    | some c => some c
    | none => blockAt n b
  | _ => none
/-- Block n of the reference's Sum. -/
noncomputable def bk (n : Nat) : Code := (Try.f10.body.bind (blockAt n)).getD .skip
/-- The words, so many of them added. -/
def plusN (s z : St) : Nat → List Int
  | 0 => s.list
  | i + 1 => (plusN s z i).set i ((rdOf 0 (plusN s z i) (i : Int) + rd z.list (i : Int)) % 4294967296)
theorem plusN_length (s z : St) : ∀ i, (plusN s z i).length = 8
  | 0 => rfl
  | i + 1 => by rw [plusN, List.length_set]; exact plusN_length s z i
theorem plusN_all (s z : St) : plusN s z 8 = (plus s z).list := rfl

theorem grown_set1 {w W : World} {g i : Nat} (h : w.grownBy W (some g)) (v : Value) : w.grownBy (W.setCell ⟨g, i, none⟩ v) (some g) :=
  ⟨h.os, h.tape, h.output, by have := h.size; simpa [World.setCell] using this, fun k hk hne => (Below.heap_setCell W ⟨g, i, none⟩ v k (fun e => hne (by rw [e]))).trans (h.block k hk hne)⟩
set_option maxHeartbeats 8000000 in
set_option maxRecDepth 1000000 in
theorem walk12 {t0 t1 t2 t4 t5 t6 t7 t8 t9 t10 t11 t12 t13 t15 t16 t17 t19 t20 t21 t22 t23 t24 t25 t26 t27 t28 t29 t30 t31 t32 t33 t34 t35 t36 t37 t38 t39 t40 t41 t42 t43 t44 t45 t46 t47 t48 t49 t50 t51 t52 t53 t54 t55 t56 t57 t58 t59 t60 t61 t62 t63 t64 t65 t66 t67 t68 t69 t70 t71 t72 t73 t74 t75 t76 t77 t78 t79 t80 t81 t82 t83 t84 t85 t86 t87 t88 t89 t90 t91 t92 t93 t94 t95 t96 t97 t98 t99 t100 t101 t102 t103 t104 t105 t106 t107 t108 t109 t110 t111 t112 t113 t114 t115 t116 t117 t118 t119 t120 t121 t122 t123 t124 t125 t126 t127 t128 t129 t130 t131 t132 t133 t134 t135 t136 t137 t138 t139 t140 t141 t142 t143 t144 t145 t146 t147 t148 t149 t150 t151 t152 t153 t154 t155 t156 t157 t158 t159 t160 t161 t162 t163 t164 t165 t166 t167 t168 t169 t170 t171 t172 t173 t174 t175 t176 t177 t178 t179 t180 t181 t182 t183 t184 t185 t186 t187 t188 t189 t190 t191 t192 t193 t194 t195 t196 t197 t198 t199 t200 t201 t202 t203 t204 t205 t206 t207 t208 t209 t210 t211 t212 t213 t214 t215 t216 t217 t218 t219 t220 t221 t222 t223 t224 t225 t226 t227 t228 t229 t230 t231 t232 t233 t234 t235 t236 t237 t238 t239 t240 t241 t242 t243 t244 t245 t246 t247 t248 t249 t250 t251 t252 t253 t254 t255 t256 t257 t258 t259 t260 t261 t262 t263 t264 t265 t266 t267 t268 t269 t270 t271 t272 t273 t274 t275 t276 t277 t278 t279 t280 t281 t282 t283 t284 t285 t286 t287 t288 t289 t290 t291 t292 t293 t294 t295 t296 t297 : Value} {Q : Exit → Act → World → Prop} {w : World} {base gh ch gv cv : Nat} (s z : St)
    (hH : Kd.R (Kd.int .u32) 43 w base (fun k => k = gh) (.slice (some ⟨gh, 0, none⟩) 8 ch) s.list) (hV : ∀ i : Nat, i < 8 → w.cell? ⟨gv, i, none⟩ = some (.int .u32 (rd z.list i))) (hvl : gv < w.heap.size) (hne : gv ≠ gh)
    (hK : ∀ (u18 u264 u265 u266 u267 u268 u269 u270 u271 u272 u273 u274 u275 u276 u277 u278 u279 : Value) (w' : World), Kd.R (Kd.int .u32) 43 w' base (fun k => k = gh) (.slice (some ⟨gh, 0, none⟩) 8 ch) (plus s z).list → w.grownBy w' (some gh) → Q Exit.normal ⟨#[t0, t1, t2, .slice (some ⟨gh, 0, none⟩) 8 ch, t4, t5, t6, t7, t8, t9, t10, t11, t12, t13, .slice (some ⟨gv, 0, none⟩) 8 cv, t15, t16, t17, u18, t19, t20, t21, t22, t23, t24, t25, t26, t27, t28, t29, t30, t31, t32, t33, t34, t35, t36, t37, t38, t39, t40, t41, t42, t43, t44, t45, t46, t47, t48, t49, t50, t51, t52, t53, t54, t55, t56, t57, t58, t59, t60, t61, t62, t63, t64, t65, t66, t67, t68, t69, t70, t71, t72, t73, t74, t75, t76, t77, t78, t79, t80, t81, t82, t83, t84, t85, t86, t87, t88, t89, t90, t91, t92, t93, t94, t95, t96, t97, t98, t99, t100, t101, t102, t103, t104, t105, t106, t107, t108, t109, t110, t111, t112, t113, t114, t115, t116, t117, t118, t119, t120, t121, t122, t123, t124, t125, t126, t127, t128, t129, t130, t131, t132, t133, t134, t135, t136, t137, t138, t139, t140, t141, t142, t143, t144, t145, t146, t147, t148, t149, t150, t151, t152, t153, t154, t155, t156, t157, t158, t159, t160, t161, t162, t163, t164, t165, t166, t167, t168, t169, t170, t171, t172, t173, t174, t175, t176, t177, t178, t179, t180, t181, t182, t183, t184, t185, t186, t187, t188, t189, t190, t191, t192, t193, t194, t195, t196, t197, t198, t199, t200, t201, t202, t203, t204, t205, t206, t207, t208, t209, t210, t211, t212, t213, t214, t215, t216, t217, t218, t219, t220, t221, t222, t223, t224, t225, t226, t227, t228, t229, t230, t231, t232, t233, t234, t235, t236, t237, t238, t239, t240, t241, t242, t243, t244, t245, t246, t247, t248, t249, t250, t251, t252, t253, t254, t255, t256, t257, t258, t259, t260, t261, t262, t263, u264, u265, u266, u267, u268, u269, u270, u271, u272, u273, u274, u275, u276, u277, u278, u279, t280, t281, t282, t283, t284, t285, t286, t287, t288, t289, t290, t291, t292, t293, t294, t295, t296, t297], []⟩ w') :
    Code.wp Try.prog (bk 12) Q ⟨#[t0, t1, t2, .slice (some ⟨gh, 0, none⟩) 8 ch, t4, t5, t6, t7, t8, t9, t10, t11, t12, t13, .slice (some ⟨gv, 0, none⟩) 8 cv, t15, t16, t17, .int .i64 0, t19, t20, t21, t22, t23, t24, t25, t26, t27, t28, t29, t30, t31, t32, t33, t34, t35, t36, t37, t38, t39, t40, t41, t42, t43, t44, t45, t46, t47, t48, t49, t50, t51, t52, t53, t54, t55, t56, t57, t58, t59, t60, t61, t62, t63, t64, t65, t66, t67, t68, t69, t70, t71, t72, t73, t74, t75, t76, t77, t78, t79, t80, t81, t82, t83, t84, t85, t86, t87, t88, t89, t90, t91, t92, t93, t94, t95, t96, t97, t98, t99, t100, t101, t102, t103, t104, t105, t106, t107, t108, t109, t110, t111, t112, t113, t114, t115, t116, t117, t118, t119, t120, t121, t122, t123, t124, t125, t126, t127, t128, t129, t130, t131, t132, t133, t134, t135, t136, t137, t138, t139, t140, t141, t142, t143, t144, t145, t146, t147, t148, t149, t150, t151, t152, t153, t154, t155, t156, t157, t158, t159, t160, t161, t162, t163, t164, t165, t166, t167, t168, t169, t170, t171, t172, t173, t174, t175, t176, t177, t178, t179, t180, t181, t182, t183, t184, t185, t186, t187, t188, t189, t190, t191, t192, t193, t194, t195, t196, t197, t198, t199, t200, t201, t202, t203, t204, t205, t206, t207, t208, t209, t210, t211, t212, t213, t214, t215, t216, t217, t218, t219, t220, t221, t222, t223, t224, t225, t226, t227, t228, t229, t230, t231, t232, t233, t234, t235, t236, t237, t238, t239, t240, t241, t242, t243, t244, t245, t246, t247, t248, t249, t250, t251, t252, t253, t254, t255, t256, t257, t258, t259, t260, t261, t262, t263, t264, t265, t266, t267, t268, t269, t270, t271, t272, t273, t274, t275, t276, t277, t278, t279, t280, t281, t282, t283, t284, t285, t286, t287, t288, t289, t290, t291, t292, t293, t294, t295, t296, t297], []⟩ w := by
  have HH : Aside0 (Kd.R (Kd.int .u32) 43 w base (fun k => k = gh) (.slice (some ⟨gh, 0, none⟩) 8 ch) (plusN s z 0)) := ⟨hH⟩
  have HV := Aside0.mk hV
  have HK := Aside0.mk hK
  have HG := Aside0.mk (World.grownBy.refl w (some gh))
  clear hH hV hK
  conv => arg 2; whnf
  go_wp2_with (fail)
  go_loopg [18] 8 (fun gg s18 wq => ∃ i : Nat, i ≤ 8 ∧ 8 - i ≤ gg ∧ s18 = .int .i64 i ∧ Aside0 (Kd.R (Kd.int .u32) 43 wq base (fun k => k = gh) (.slice (some ⟨gh, 0, none⟩) 8 ch) (plusN s z i)) ∧ Aside0 (w.grownBy wq (some gh)))
  case atStart => exact ⟨0, by omega, by omega, rfl, HH, HG⟩
  case round =>
    clear HH HG
    obtain ⟨i, hi, hgg, rfl, HX, HG⟩ := hrel
    by_cases hlt : i < 8
    · have hiz : (i : Int) < 8 := by omega
      have HM := Aside0.mk (show 8 - (i + 1) < gk by omega)
      have hxl := plusN_length s z i
      obtain ⟨hc1, hc2⟩ := Kd.R_celln (0 : Int) HX.out (i : Int) (by omega) (by omega)
      rw [Int.toNat_natCast] at hc1 hc2
      have hv := (World.cell?_of_block (a := ⟨gv, i, none⟩) (HG.out.block gv hvl (fun e => hne (by injection e)))).trans (HV.out i hlt)
      have HLT := Aside0.mk hlt
      clear hgg hi hxl hlt
      go_upto_region 35 with (fail)
      go_still_tail 12, (by kernel_rfl)
      change wpList _ _ _ _ _ wr.drew
      have q1 : wr.drew.cell? ⟨gh, i, none⟩ = _ := hc1
      have q2 : wr.drew.frozen? ⟨gh, i, none⟩ = _ := hc2
      have HX' : Aside0 (Kd.R (Kd.int .u32) 43 wr.drew base (fun k => k = gh) (.slice (some ⟨gh, 0, none⟩) 8 ch) (plusN s z i)) := ⟨Kd.R_drew HX.out⟩
      have HG' : Aside0 (w.grownBy wr.drew (some gh)) := ⟨⟨HG.out.os, HG.out.tape, HG.out.output, HG.out.size, HG.out.block⟩⟩
      clear hc1 hc2 hv HX HG
      generalize wr.drew = wv at q1 q2 HX' HG' ⊢
      go_wp2
      go_roundg (8 - (i + 1))
      case measure => exact HM.out
      case rel =>
        have hp := (Kd.R_putg HX'.out (i : Int) ((rdOf 0 (plusN s z i) (i : Int) + rd z.list (i : Int)) % 4294967296)).1
        rw [Int.toNat_natCast] at hp
        exact ⟨i + 1, HLT.out, Nat.le_refl _, by push_cast; rfl, ⟨hp⟩, ⟨grown_set1 HG'.out _⟩⟩
    · obtain rfl : i = 8 := by omega
      go_wp2_with (fail)
      have hx := HX.out
      rw [plusN_all] at hx
      exact HK.out _ _ _ _ _ _ _ _ _ _ _ _ _ _ _ _ _  _ hx HG.out
end Go.Proofs.Ytocnkfepiknglaa.PAll
namespace Go.Proofs.Ytocnkfepiknglaa.PAll
open Go.RowKit Go.Shelf Go.Proofs.YtocnkfepiknglaaW.PrintWords Go.Proofs.YtocnkfepiknglaaW.PrintLast Go.Proofs.YtocnkfepiknglaaW.PrintMore
set_option linter.unusedVariables false
set_option linter.unusedSimpArgs false

/-- A word on the way. -/
def partW (B : List Int) (i : Nat) : Nat → Int
  | 0 => 0
  | k + 1 => (partW B i k * 256 + rd B ((4 * i + k : Nat) : Int)) % 4294967296
theorem rdOf_set_self (xs : List Int) (i : Nat) (y : Int) (h : i < xs.length) : rdOf 0 (xs.set i y) (i : Int) = y := by
  unfold rdOf
  rw [Int.toNat_natCast, List.getD_eq_getElem?_getD, List.getElem?_set_self h]
  rfl
theorem wrap_small (x : Int) (h0 : 0 ≤ x) (h1 : x < 1000000000) : IntKind.i64.wrap x = x := by
  rw [IntKind.wrap_i64]
  omega
theorem idx_wrap (p i k q : Nat) (hq : q = p + (4 * i + k)) (h : q ≤ 200000) : IntKind.i64.wrap (IntKind.i64.wrap ((p : Int) + IntKind.i64.wrap (4 * (i : Int))) + (k : Int)) = (q : Int) := by
  rw [wrap_small (4 * (i : Int)) (by omega) (by omega), wrap_small ((p : Int) + 4 * (i : Int)) (by omega) (by omega), wrap_small _ (by omega) (by omega)]
  omega
theorem below_set1 {base g i : Nat} {w0 w : World} {v : Value} (h : Below base w0 w) (hg : base ≤ g) : Below base w0 (w.setCell ⟨g, i, none⟩ v) :=
  ⟨h.os, h.tape, h.output, by have := h.size; simpa [World.setCell] using this, fun k hk => (Below.heap_setCell w ⟨g, i, none⟩ v k (by have : k < base := hk; show k ≠ g; omega)).trans (h.block k hk)⟩
theorem partW_next (B : List Int) (i k : Nat) : partW B i (k + 1) = (partW B i k * 256 + rd B (4 * (i : Int) + (k : Int))) % 4294967296 := by
  rw [partW]
  push_cast
  rfl

set_option maxHeartbeats 8000000 in
set_option maxRecDepth 1000000 in
theorem walk8 {t0 t1 t2 t3 t4 t6 t7 t12 t13 t14 t15 t16 t17 t18 t19 t20 t21 t22 t23 t24 t25 t26 t27 t28 t29 t30 t31 t32 t33 t34 t35 t36 t37 t38 t39 t40 t41 t42 t43 t44 t45 t46 t47 t48 t49 t50 t51 t52 t53 t54 t55 t56 t57 t58 t59 t60 t61 t62 t63 t64 t65 t66 t67 t68 t69 t70 t71 t72 t73 t74 t75 t76 t77 t78 t79 t80 t81 t82 t83 t84 t85 t86 t87 t88 t89 t90 t91 t92 t93 t94 t95 t96 t97 t98 t99 t100 t101 t102 t103 t104 t105 t106 t107 t108 t109 t110 t111 t112 t113 t114 t115 t116 t117 t118 t119 t120 t121 t122 t123 t124 t125 t126 t127 t128 t129 t130 t131 t132 t133 t134 t135 t136 t137 t138 t139 t140 t141 t142 t143 t144 t145 t146 t147 t148 t149 t150 t151 t152 t153 t154 t155 t156 t157 t158 t159 t160 t161 t162 t163 t164 t165 t166 t167 t168 t169 t170 t171 t172 t173 t174 t175 t176 t177 t178 t179 t180 t181 t182 t183 t184 t185 t186 t187 t188 t189 t190 t191 t192 t193 t194 t195 t196 t197 t198 t199 t200 t201 t202 t203 t204 t205 t206 t207 t208 t209 t210 t211 t212 t213 t214 t215 t216 t217 t218 t219 t220 t221 t222 t223 t224 t225 t226 t227 t228 t229 t230 t231 t232 t233 t234 t235 t236 t237 t238 t239 t240 t241 t242 t243 t244 t245 t246 t247 t248 t249 t250 t251 t252 t253 t254 t255 t256 t257 t258 t259 t260 t261 t262 t263 t264 t265 t266 t267 t268 t269 t270 t271 t272 t273 t274 t275 t276 t277 t278 t279 t280 t281 t282 t283 t284 t285 t286 t287 t288 t289 t290 t291 t292 t293 t294 t295 t296 t297 : Value} {K : Act → World → Prop} {Q : Exit → Act → World → Prop} {w : World} {base ga ca n p gw cw i : Nat} {xs : List Int} (B : List Int)
    (hX : Kd.R (Kd.int .u32) 43 w base (fun _ => True) (.slice (some ⟨gw, 0, none⟩) 64 cw) (xs.set i 0)) (hA : ∀ j : Nat, j < 64 → w.cell? ⟨ga, p + j, none⟩ = some (.int .u8 (rd B j))) (hga : ga < base) (hbase : base ≤ w.heap.size) (hi : i < 16) (hp : p + 64 ≤ n) (hn : n ≤ 200000) (hxl : xs.length = 64)
    (hK : ∀ (u11 u66 u67 u68 u69 u70 u71 u72 u73 u74 u75 u76 u77 u78 u79 u80 u81 u82 u83 u84 u85 u86 u87 u88 : Value) (w' : World), Kd.R (Kd.int .u32) 43 w' base (fun _ => True) (.slice (some ⟨gw, 0, none⟩) 64 cw) (xs.set i (partW B i 4)) → Below base w w' → K ⟨#[t0, t1, t2, t3, t4, .slice (some ⟨ga, 0, none⟩) n ca, t6, t7, .int .i64 p, .slice (some ⟨gw, 0, none⟩) 64 cw, .int .i64 i, u11, t12, t13, t14, t15, t16, t17, t18, t19, t20, t21, t22, t23, t24, t25, t26, t27, t28, t29, t30, t31, t32, t33, t34, t35, t36, t37, t38, t39, t40, t41, t42, t43, t44, t45, t46, t47, t48, t49, t50, t51, t52, t53, t54, t55, t56, t57, t58, t59, t60, t61, t62, t63, t64, t65, u66, u67, u68, u69, u70, u71, u72, u73, u74, u75, u76, u77, u78, u79, u80, u81, u82, u83, u84, u85, u86, u87, u88, t89, t90, t91, t92, t93, t94, t95, t96, t97, t98, t99, t100, t101, t102, t103, t104, t105, t106, t107, t108, t109, t110, t111, t112, t113, t114, t115, t116, t117, t118, t119, t120, t121, t122, t123, t124, t125, t126, t127, t128, t129, t130, t131, t132, t133, t134, t135, t136, t137, t138, t139, t140, t141, t142, t143, t144, t145, t146, t147, t148, t149, t150, t151, t152, t153, t154, t155, t156, t157, t158, t159, t160, t161, t162, t163, t164, t165, t166, t167, t168, t169, t170, t171, t172, t173, t174, t175, t176, t177, t178, t179, t180, t181, t182, t183, t184, t185, t186, t187, t188, t189, t190, t191, t192, t193, t194, t195, t196, t197, t198, t199, t200, t201, t202, t203, t204, t205, t206, t207, t208, t209, t210, t211, t212, t213, t214, t215, t216, t217, t218, t219, t220, t221, t222, t223, t224, t225, t226, t227, t228, t229, t230, t231, t232, t233, t234, t235, t236, t237, t238, t239, t240, t241, t242, t243, t244, t245, t246, t247, t248, t249, t250, t251, t252, t253, t254, t255, t256, t257, t258, t259, t260, t261, t262, t263, t264, t265, t266, t267, t268, t269, t270, t271, t272, t273, t274, t275, t276, t277, t278, t279, t280, t281, t282, t283, t284, t285, t286, t287, t288, t289, t290, t291, t292, t293, t294, t295, t296, t297], []⟩ w') :
    Code.wp Try.prog (bk 8) (Exit.then K Q) ⟨#[t0, t1, t2, t3, t4, .slice (some ⟨ga, 0, none⟩) n ca, t6, t7, .int .i64 p, .slice (some ⟨gw, 0, none⟩) 64 cw, .int .i64 i, .int .i64 0, t12, t13, t14, t15, t16, t17, t18, t19, t20, t21, t22, t23, t24, t25, t26, t27, t28, t29, t30, t31, t32, t33, t34, t35, t36, t37, t38, t39, t40, t41, t42, t43, t44, t45, t46, t47, t48, t49, t50, t51, t52, t53, t54, t55, t56, t57, t58, t59, t60, t61, t62, t63, t64, t65, t66, t67, t68, t69, t70, t71, t72, t73, t74, t75, t76, t77, t78, t79, t80, t81, t82, t83, t84, t85, t86, t87, t88, t89, t90, t91, t92, t93, t94, t95, t96, t97, t98, t99, t100, t101, t102, t103, t104, t105, t106, t107, t108, t109, t110, t111, t112, t113, t114, t115, t116, t117, t118, t119, t120, t121, t122, t123, t124, t125, t126, t127, t128, t129, t130, t131, t132, t133, t134, t135, t136, t137, t138, t139, t140, t141, t142, t143, t144, t145, t146, t147, t148, t149, t150, t151, t152, t153, t154, t155, t156, t157, t158, t159, t160, t161, t162, t163, t164, t165, t166, t167, t168, t169, t170, t171, t172, t173, t174, t175, t176, t177, t178, t179, t180, t181, t182, t183, t184, t185, t186, t187, t188, t189, t190, t191, t192, t193, t194, t195, t196, t197, t198, t199, t200, t201, t202, t203, t204, t205, t206, t207, t208, t209, t210, t211, t212, t213, t214, t215, t216, t217, t218, t219, t220, t221, t222, t223, t224, t225, t226, t227, t228, t229, t230, t231, t232, t233, t234, t235, t236, t237, t238, t239, t240, t241, t242, t243, t244, t245, t246, t247, t248, t249, t250, t251, t252, t253, t254, t255, t256, t257, t258, t259, t260, t261, t262, t263, t264, t265, t266, t267, t268, t269, t270, t271, t272, t273, t274, t275, t276, t277, t278, t279, t280, t281, t282, t283, t284, t285, t286, t287, t288, t289, t290, t291, t292, t293, t294, t295, t296, t297], []⟩ w := by
  have HX : Aside0 (Kd.R (Kd.int .u32) 43 w base (fun _ => True) (.slice (some ⟨gw, 0, none⟩) 64 cw) (xs.set i (partW B i 0))) := ⟨hX⟩
  have HA := Aside0.mk hA
  have HK := Aside0.mk hK
  have HB : Aside0 (Below base w w) := ⟨⟨rfl, rfl, rfl, Nat.le_refl _, fun _ _ => rfl⟩⟩
  have hgw : base ≤ gw := Kd.R_base hX gw rfl
  have HXL := Aside0.mk hxl
  clear hX hA hK hxl
  conv => arg 2; whnf
  go_wp2_with (fail)
  go_loopg [11] 4 (fun gg s11 wq => ∃ k : Nat, k ≤ 4 ∧ 4 - k ≤ gg ∧ s11 = .int .i64 k ∧ Aside0 (Kd.R (Kd.int .u32) 43 wq base (fun _ => True) (.slice (some ⟨gw, 0, none⟩) 64 cw) (xs.set i (partW B i k))) ∧ Aside0 (Below base w wq))
  case atStart => exact ⟨0, by omega, by omega, rfl, HX, HB⟩
  case round =>
    clear HX HB
    obtain ⟨k, hk, hgg, rfl, HX, HB⟩ := hrel
    by_cases hlt : k < 4
    · have hkz : (k : Int) < 4 := by omega
      have HM := Aside0.mk (show 4 - (k + 1) < gk by omega)
      have hsl : (xs.set i (partW B i k)).length = 64 := by rw [List.length_set]; exact HXL.out
      obtain ⟨hc1, hc2⟩ := Kd.R_celln (0 : Int) HX.out (i : Int) (by omega) (by omega)
      rw [Int.toNat_natCast, rdOf_set_self _ _ _ (by rw [HXL.out]; omega)] at hc1
      rw [Int.toNat_natCast] at hc2
      obtain ⟨q, hq⟩ : ∃ q, q = p + (4 * i + k) := ⟨_, rfl⟩
      have ha := (World.cell?_of_block (a := ⟨ga, p + (4 * i + k), none⟩) (HB.out.block ga hga)).trans (HA.out (4 * i + k) (by omega))
      rw [← hq] at ha
      have hi64 : i < 64 := by omega
      have hi64z : (i : Int) < 64 := by omega
      have hqn : q < n := by omega
      have hqz : (q : Int) < (n : Int) := by omega
      have hqw : IntKind.i64.wrap (IntKind.i64.wrap ((p : Int) + IntKind.i64.wrap (4 * (i : Int))) + (k : Int)) = (q : Int) := idx_wrap p i k q hq (by omega)
      clear hq
      have HLT := Aside0.mk hlt
      clear hgg hk hsl hlt
      go_upto_region 21 with (fail)
      go_still_tail 19, (by kernel_rfl)
      change wpList _ _ _ _ _ wr.drew
      have q1 : wr.drew.cell? ⟨gw, i, none⟩ = _ := hc1
      have q2 : wr.drew.frozen? ⟨gw, i, none⟩ = _ := hc2
      have HX' : Aside0 (Kd.R (Kd.int .u32) 43 wr.drew base (fun _ => True) (.slice (some ⟨gw, 0, none⟩) 64 cw) (xs.set i (partW B i k))) := ⟨Kd.R_drew HX.out⟩
      have HB' : Aside0 (Below base w wr.drew) := ⟨below_drew HB.out⟩
      clear hc1 hc2 ha HX HB
      generalize wr.drew = wv at q1 q2 HX' HB' ⊢
      go_wp2
      go_roundg (4 - (k + 1))
      case measure => exact HM.out
      case rel =>
        have hp := (Kd.R_putg HX'.out (i : Int) (partW B i (k + 1))).1
        have hw := below_set1 (i := i) (v := .int .u32 (partW B i (k + 1))) HB'.out hgw
        rw [Int.toNat_natCast, List.set_set] at hp
        have e := partW_next B i k
        exact ⟨k + 1, HLT.out, Nat.le_refl _, by push_cast; rfl, ⟨by rw [← e]; exact hp⟩, ⟨by rw [← e]; exact hw⟩⟩
    · obtain rfl : k = 4 := by omega
      go_wp2_with (fail)
      exact HK.out _ _ _ _ _ _ _ _ _ _ _ _ _ _ _ _ _ _ _ _ _ _ _ _  _ HX.out HB.out
end Go.Proofs.Ytocnkfepiknglaa.PAll
namespace Go.Proofs.Ytocnkfepiknglaa.PAll
open Go.RowKit Go.Shelf Go.Proofs.YtocnkfepiknglaaW.PrintWords Go.Proofs.YtocnkfepiknglaaW.PrintLast Go.Proofs.YtocnkfepiknglaaW.PrintMore
set_option linter.unusedVariables false
set_option linter.unusedSimpArgs false

theorem div4_wrap (i : Nat) (h : i < 32) : IntKind.i64.wrap ((i : Int).tdiv 4) = ((i / 4 : Nat) : Int) := by
  rw [Int.tdiv_eq_ediv_of_nonneg (by omega), wrap_small _ (by omega) (by omega)]
  omega
theorem mod4_wrap (i : Nat) : (i : Int).tmod 4 = ((i % 4 : Nat) : Int) := by
  rw [Int.tmod_eq_emod_of_nonneg (by omega)]
  omega

theorem outs_next1 {w : World} {B : Nat} {h : List Int} {i : Nat} (hb : w.heap[B]? = some (.cells (arr32 (outs h i)) 24 (0, 0))) : (w.setCell ⟨B, i, none⟩ (.int .u8 (rd h ((i : Int) / 4) / 2 ^ (24 - 8 * (i % 4)) % 256))).heap[B]? = some (.cells (arr32 (outs h (i + 1))) 24 (0, 0)) := outs_next hb

set_option maxHeartbeats 8000000 in
set_option maxRecDepth 1000000 in
theorem walk14 {t0 t1 t2 t4 t5 t6 t7 t8 t9 t10 t11 t12 t13 t14 t15 t16 t17 t18 t21 t22 t23 t24 t25 t26 t27 t28 t29 t30 t31 t32 t33 t34 t35 t36 t37 t38 t39 t40 t41 t42 t43 t44 t45 t46 t47 t48 t49 t50 t51 t52 t53 t54 t55 t56 t57 t58 t59 t60 t61 t62 t63 t64 t65 t66 t67 t68 t69 t70 t71 t72 t73 t74 t75 t76 t77 t78 t79 t80 t81 t82 t83 t84 t85 t86 t87 t88 t89 t90 t91 t92 t93 t94 t95 t96 t97 t98 t99 t100 t101 t102 t103 t104 t105 t106 t107 t108 t109 t110 t111 t112 t113 t114 t115 t116 t117 t118 t119 t120 t121 t122 t123 t124 t125 t126 t127 t128 t129 t130 t131 t132 t133 t134 t135 t136 t137 t138 t139 t140 t141 t142 t143 t144 t145 t146 t147 t148 t149 t150 t151 t152 t153 t154 t155 t156 t157 t158 t159 t160 t161 t162 t163 t164 t165 t166 t167 t168 t169 t170 t171 t172 t173 t174 t175 t176 t177 t178 t179 t180 t181 t182 t183 t184 t185 t186 t187 t188 t189 t190 t191 t192 t193 t194 t195 t196 t197 t198 t199 t200 t201 t202 t203 t204 t205 t206 t207 t208 t209 t210 t211 t212 t213 t214 t215 t216 t217 t218 t219 t220 t221 t222 t223 t224 t225 t226 t227 t228 t229 t230 t231 t232 t233 t234 t235 t236 t237 t238 t239 t240 t241 t242 t243 t244 t245 t246 t247 t248 t249 t250 t251 t252 t253 t254 t255 t256 t257 t258 t259 t260 t261 t262 t263 t264 t265 t266 t267 t268 t269 t270 t271 t272 t273 t274 t275 t276 t277 t278 t279 t280 t281 t282 t283 t284 t285 t286 t287 t288 t289 t290 t291 t292 t293 t294 t295 t296 t297 : Value} {K : Act → World → Prop} {Q : Exit → Act → World → Prop} {w : World} {gh ch go : Nat} (h : List Int)
    (hH : ∀ j : Nat, j < 8 → w.cell? ⟨gh, j, none⟩ = some (.int .u32 (rd h j))) (hgh : gh < w.heap.size) (hne : gh ≠ go) (hO : w.heap[go]? = some (.cells (arr32 zeros32) 24 (0, 0)))
    (hK : ∀ (u20 u280 u281 u282 u283 u284 u285 u286 u287 u288 u289 u290 u291 u292 u293 u294 u295 u296 : Value) (w' : World), w'.heap[go]? = some (.cells (arr32 (outs h 32)) 24 (0, 0)) → w.grownBy w' (some go) → K ⟨#[t0, t1, t2, .slice (some ⟨gh, 0, none⟩) 8 ch, t4, t5, t6, t7, t8, t9, t10, t11, t12, t13, t14, t15, t16, t17, t18, .pointer (some ⟨go, 0, none⟩), u20, t21, t22, t23, t24, t25, t26, t27, t28, t29, t30, t31, t32, t33, t34, t35, t36, t37, t38, t39, t40, t41, t42, t43, t44, t45, t46, t47, t48, t49, t50, t51, t52, t53, t54, t55, t56, t57, t58, t59, t60, t61, t62, t63, t64, t65, t66, t67, t68, t69, t70, t71, t72, t73, t74, t75, t76, t77, t78, t79, t80, t81, t82, t83, t84, t85, t86, t87, t88, t89, t90, t91, t92, t93, t94, t95, t96, t97, t98, t99, t100, t101, t102, t103, t104, t105, t106, t107, t108, t109, t110, t111, t112, t113, t114, t115, t116, t117, t118, t119, t120, t121, t122, t123, t124, t125, t126, t127, t128, t129, t130, t131, t132, t133, t134, t135, t136, t137, t138, t139, t140, t141, t142, t143, t144, t145, t146, t147, t148, t149, t150, t151, t152, t153, t154, t155, t156, t157, t158, t159, t160, t161, t162, t163, t164, t165, t166, t167, t168, t169, t170, t171, t172, t173, t174, t175, t176, t177, t178, t179, t180, t181, t182, t183, t184, t185, t186, t187, t188, t189, t190, t191, t192, t193, t194, t195, t196, t197, t198, t199, t200, t201, t202, t203, t204, t205, t206, t207, t208, t209, t210, t211, t212, t213, t214, t215, t216, t217, t218, t219, t220, t221, t222, t223, t224, t225, t226, t227, t228, t229, t230, t231, t232, t233, t234, t235, t236, t237, t238, t239, t240, t241, t242, t243, t244, t245, t246, t247, t248, t249, t250, t251, t252, t253, t254, t255, t256, t257, t258, t259, t260, t261, t262, t263, t264, t265, t266, t267, t268, t269, t270, t271, t272, t273, t274, t275, t276, t277, t278, t279, u280, u281, u282, u283, u284, u285, u286, u287, u288, u289, u290, u291, u292, u293, u294, u295, u296, t297], []⟩ w') :
    Code.wp Try.prog (bk 14) (Exit.then K Q) ⟨#[t0, t1, t2, .slice (some ⟨gh, 0, none⟩) 8 ch, t4, t5, t6, t7, t8, t9, t10, t11, t12, t13, t14, t15, t16, t17, t18, .pointer (some ⟨go, 0, none⟩), .int .i64 0, t21, t22, t23, t24, t25, t26, t27, t28, t29, t30, t31, t32, t33, t34, t35, t36, t37, t38, t39, t40, t41, t42, t43, t44, t45, t46, t47, t48, t49, t50, t51, t52, t53, t54, t55, t56, t57, t58, t59, t60, t61, t62, t63, t64, t65, t66, t67, t68, t69, t70, t71, t72, t73, t74, t75, t76, t77, t78, t79, t80, t81, t82, t83, t84, t85, t86, t87, t88, t89, t90, t91, t92, t93, t94, t95, t96, t97, t98, t99, t100, t101, t102, t103, t104, t105, t106, t107, t108, t109, t110, t111, t112, t113, t114, t115, t116, t117, t118, t119, t120, t121, t122, t123, t124, t125, t126, t127, t128, t129, t130, t131, t132, t133, t134, t135, t136, t137, t138, t139, t140, t141, t142, t143, t144, t145, t146, t147, t148, t149, t150, t151, t152, t153, t154, t155, t156, t157, t158, t159, t160, t161, t162, t163, t164, t165, t166, t167, t168, t169, t170, t171, t172, t173, t174, t175, t176, t177, t178, t179, t180, t181, t182, t183, t184, t185, t186, t187, t188, t189, t190, t191, t192, t193, t194, t195, t196, t197, t198, t199, t200, t201, t202, t203, t204, t205, t206, t207, t208, t209, t210, t211, t212, t213, t214, t215, t216, t217, t218, t219, t220, t221, t222, t223, t224, t225, t226, t227, t228, t229, t230, t231, t232, t233, t234, t235, t236, t237, t238, t239, t240, t241, t242, t243, t244, t245, t246, t247, t248, t249, t250, t251, t252, t253, t254, t255, t256, t257, t258, t259, t260, t261, t262, t263, t264, t265, t266, t267, t268, t269, t270, t271, t272, t273, t274, t275, t276, t277, t278, t279, t280, t281, t282, t283, t284, t285, t286, t287, t288, t289, t290, t291, t292, t293, t294, t295, t296, t297], []⟩ w := by
  have HH := Aside0.mk hH
  have HK := Aside0.mk hK
  have HO : Aside0 (w.heap[go]? = some (.cells (arr32 (outs h 0)) 24 (0, 0))) := ⟨hO⟩
  have HG := Aside0.mk (World.grownBy.refl w (some go))
  clear hH hK hO
  conv => arg 2; whnf
  go_wp2_with (fail)
  go_loopg [20] 32 (fun gg s20 wq => ∃ i : Nat, i ≤ 32 ∧ 32 - i ≤ gg ∧ s20 = .int .i64 i ∧ Aside0 (wq.heap[go]? = some (.cells (arr32 (outs h i)) 24 (0, 0))) ∧ Aside0 (w.grownBy wq (some go)))
  case atStart => exact ⟨0, by omega, by omega, rfl, HO, HG⟩
  case round =>
    clear HO HG
    obtain ⟨i, hi, hgg, rfl, HO, HG⟩ := hrel
    by_cases hlt : i < 32
    · have hiz : (i : Int) < 32 := by omega
      have HM := Aside0.mk (show 32 - (i + 1) < gk by omega)
      have hd8 : i / 4 < 8 := by omega
      have hd8z : (i : Int) / 4 < 8 := by omega
      have hd0z : (0 : Int) ≤ (i : Int) / 4 := by omega
      have he3 : (i : Int) % 4 ≤ 3 := by omega
      have he0 : (0 : Int) ≤ (i : Int) % 4 := by omega
      have hcell := (World.cell?_of_block (a := ⟨gh, i / 4, none⟩) (HG.out.block gh hgh (fun x => hne (by injection x)))).trans (HH.out (i / 4) hd8)
      have hoc := arr32_cell HO.out (outs_length _ _) i hlt
      have hof := blk_frozen HO.out i
      have HLT := Aside0.mk hlt
      clear hgg hi hlt
      go_upto_region 40 with (fail)
      go_wp2
      go_roundg (32 - (i + 1))
      case measure => exact HM.out
      case rel => exact ⟨i + 1, HLT.out, Nat.le_refl _, by push_cast; rfl, ⟨outs_next1 HO.out⟩, ⟨grown_set1 HG.out _⟩⟩
    · obtain rfl : i = 32 := by omega
      go_wp2_with (fail)
      exact HK.out _ _ _ _ _ _ _ _ _ _ _ _ _ _ _ _ _ _  _ HO.out HG.out
end Go.Proofs.Ytocnkfepiknglaa.PAll
