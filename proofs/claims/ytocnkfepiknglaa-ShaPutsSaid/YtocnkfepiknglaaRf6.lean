/- The reference's Sum: the words of a block. -/
import Derived.Test.YtocnkfepiknglaaRf8
namespace Go.Proofs.Ytocnkfepiknglaa.PAll
open Go.RowKit Go.Shelf Go.Proofs.YtocnkfepiknglaaW.PrintWords Go.Proofs.YtocnkfepiknglaaW.PrintLast Go.Proofs.YtocnkfepiknglaaW.PrintMore
set_option linter.unusedVariables false
set_option linter.unusedSimpArgs false

theorem turn_quiet (x k m : Int) (h : latchkeyref03_turn.f x k = some (rl x m)) (w : World) (n : Nat) : Calls Try.prog 18 #[.int .u32 x, .int .i64 k] (w.drewN n) fun e w' => e = .returned (.int .u32 (rl x m)) ∧ ∃ q, w' = w.drewN q :=
  Calls.quiet_of ((latchkeyref03_turn.calls x k _ _ h).mono fun _ _ ⟨he, hd⟩ => ⟨he, hd.out⟩)
set_option maxRecDepth 100000 in
theorem partW_word (B : List Int) (hB : ByteL B) (i : Nat) : partW B i 4 = word B i := by
  unfold word
  have h0 := byteL_any hB ((4 * i : Nat) : Int)
  have h1 := byteL_any hB ((4 * i + 1 : Nat) : Int)
  have h2 := byteL_any hB ((4 * i + 2 : Nat) : Int)
  have h3 := byteL_any hB ((4 * i + 3 : Nat) : Int)
  have e1 : (4 : Int) * (i : Int) = ((4 * i : Nat) : Int) := by push_cast; rfl
  have e2 : ((4 * i : Nat) : Int) + 1 = ((4 * i + 1 : Nat) : Int) := by push_cast; rfl
  have e3 : ((4 * i : Nat) : Int) + 2 = ((4 * i + 2 : Nat) : Int) := by push_cast; rfl
  have e4 : ((4 * i : Nat) : Int) + 3 = ((4 * i + 3 : Nat) : Int) := by push_cast; rfl
  rw [e1, e2, e3, e4]
  simp only [partW, Nat.add_zero]
  obtain ⟨p, hp⟩ := Int.eq_ofNat_of_zero_le h0.1
  obtain ⟨q, hq⟩ := Int.eq_ofNat_of_zero_le h1.1
  obtain ⟨r, hr⟩ := Int.eq_ofNat_of_zero_le h2.1
  obtain ⟨s, hs⟩ := Int.eq_ofNat_of_zero_le h3.1
  rw [hp] at h0
  rw [hq] at h1
  rw [hr] at h2
  rw [hs] at h3
  rw [hp, hq, hr, hs, word_nat p q r s (by omega) (by omega) (by omega) (by omega)]
  push_cast
  omega
theorem below_drew1 {base : Nat} {w0 w : World} (h : Below base w0 w) : Below base w0 w.drew := ⟨h.os, h.tape, h.output, h.size, h.block⟩
theorem below_drewN1 {base : Nat} {w0 w : World} (h : Below base w0 w) (n : Nat) : Below base w0 (w.drewN n) := ⟨h.os, h.tape, h.output, h.size, h.block⟩
/-- The words, so many of them. -/
def wS (B : List Int) (i : Nat) : List Int := if i < 16 then sched1 B i else sched2 B (i - 16)
theorem wS_length (B : List Int) (i : Nat) : (wS B i).length = 64 := by
  unfold wS
  split
  · exact sched1_length B i
  · exact sched2_length B _
theorem wS_lt (B : List Int) (i : Nat) (h : i ≤ 16) : wS B i = sched1 B i := by
  unfold wS
  split
  · rfl
  · obtain rfl : i = 16 := by omega
    rfl
theorem wS_ge (B : List Int) (i : Nat) (h : 16 ≤ i) : wS B i = sched2 B (i - 16) := by
  unfold wS
  rw [if_neg (by omega)]
theorem sched1_zero (B : List Int) : ∀ i j, i ≤ j → j < 64 → (sched1 B i)[j]? = some 0
  | 0, j, _, h => by rw [sched1, List.getElem?_replicate, if_pos h]
  | i + 1, j, h1, h => by
    rw [sched1, List.getElem?_set_ne (by omega)]
    exact sched1_zero B i j (by omega) h
theorem sched1_set (B : List Int) (i : Nat) (h : i < 64) : (sched1 B i).set i 0 = sched1 B i := by
  refine List.ext_getElem? fun j => ?_
  rw [List.getElem?_set]
  split
  · rename_i hj
    subst hj
    rw [sched1_length, if_pos h, sched1_zero B i i (Nat.le_refl _) h]
  · rfl
theorem wS_next1 (B : List Int) (hB : ByteL B) (i : Nat) (h : i < 16) : (wS B i).set i (partW B i 4) = wS B (i + 1) := by
  rw [wS_lt B i (by omega), wS_lt B (i + 1) (by omega), partW_word B hB]
  rfl
theorem wS_next2 (B : List Int) (i : Nat) (h : 16 ≤ i) : (wS B i).set i (mix (wS B i) i) = wS B (i + 1) := by
  rw [wS_ge B i h, wS_ge B (i + 1) (by omega), sched2_next B i h]
theorem sum_ord (a b c d : Int) : (a + b + c + d) % 4294967296 = IntKind.u32.wrap (IntKind.u32.wrap (IntKind.u32.wrap (a + c) + b) + d) := by
  simp only [IntKind.wrap_u32]
  omega
theorem mix_eq (xs : List Int) (i j15 j2 j16 j7 : Nat) (x y : Int) (h : j15 = i - 15 ∧ j2 = i - 2 ∧ j16 = i - 16 ∧ j7 = i - 7) (hx : x = rdOf (0 : Int) xs (j15 : Int)) (hy : y = rdOf (0 : Int) xs (j2 : Int)) :
    (rdOf 0 xs (j16 : Int) + Go.bits .xor .u32 (Go.bits .xor .u32 (rl x (-7)) (rl x (-18))) (x / 8) + rdOf 0 xs (j7 : Int) + Go.bits .xor .u32 (Go.bits .xor .u32 (rl y (-17)) (rl y (-19))) (y / 1024)) % 4294967296 = mix xs i := by
  obtain ⟨rfl, rfl, rfl, rfl⟩ := h
  subst hx hy
  exact sum_ord _ _ _ _

set_option maxHeartbeats 8000000 in
set_option maxRecDepth 1000000 in
theorem walk6 {t0 t1 t2 t3 t4 t6 t7 t11 t12 t13 t14 t15 t16 t17 t18 t19 t20 t21 t22 t23 t24 t25 t26 t27 t28 t29 t30 t31 t32 t33 t34 t35 t36 t37 t38 t39 t40 t41 t42 t43 t44 t45 t46 t47 t48 t49 t50 t51 t52 t53 t54 t55 t56 t57 t58 t59 t60 t61 t62 t63 t64 t65 t66 t67 t68 t69 t70 t71 t72 t73 t74 t75 t76 t77 t78 t79 t80 t81 t82 t83 t84 t85 t86 t87 t88 t89 t90 t91 t92 t93 t94 t95 t96 t97 t98 t99 t100 t101 t102 t103 t104 t105 t106 t107 t108 t109 t110 t111 t112 t113 t114 t115 t116 t117 t118 t119 t120 t121 t122 t123 t124 t125 t126 t127 t128 t129 t130 t131 t132 t133 t134 t135 t136 t137 t138 t139 t140 t141 t142 t143 t144 t145 t146 t147 t148 t149 t150 t151 t152 t153 t154 t155 t156 t157 t158 t159 t160 t161 t162 t163 t164 t165 t166 t167 t168 t169 t170 t171 t172 t173 t174 t175 t176 t177 t178 t179 t180 t181 t182 t183 t184 t185 t186 t187 t188 t189 t190 t191 t192 t193 t194 t195 t196 t197 t198 t199 t200 t201 t202 t203 t204 t205 t206 t207 t208 t209 t210 t211 t212 t213 t214 t215 t216 t217 t218 t219 t220 t221 t222 t223 t224 t225 t226 t227 t228 t229 t230 t231 t232 t233 t234 t235 t236 t237 t238 t239 t240 t241 t242 t243 t244 t245 t246 t247 t248 t249 t250 t251 t252 t253 t254 t255 t256 t257 t258 t259 t260 t261 t262 t263 t264 t265 t266 t267 t268 t269 t270 t271 t272 t273 t274 t275 t276 t277 t278 t279 t280 t281 t282 t283 t284 t285 t286 t287 t288 t289 t290 t291 t292 t293 t294 t295 t296 t297 : Value} {K : Act → World → Prop} {Q : Exit → Act → World → Prop} {w : World} {base ga ca n p gw cw : Nat} (B : List Int) (hBL : ByteL B)
    (hX : Kd.R (Kd.int .u32) 43 w base (fun _ => True) (.slice (some ⟨gw, 0, none⟩) 64 cw) (wS B 0)) (hA : ∀ j : Nat, j < 64 → w.cell? ⟨ga, p + j, none⟩ = some (.int .u8 (rd B j))) (hga : ga < base) (hbase : base ≤ w.heap.size) (hp : p + 64 ≤ n) (hn : n ≤ 200000)
    (hK : ∀ (u10 u11 u12 u13 u60 u61 u62 u63 u64 u65 u66 u67 u68 u69 u70 u71 u72 u73 u74 u75 u76 u77 u78 u79 u80 u81 u82 u83 u84 u85 u86 u87 u88 u89 u90 u91 u92 u93 u94 u95 u96 u97 u98 u99 u100 u101 u102 u103 u104 u105 u106 u107 u108 u109 u110 u111 u112 u113 u114 u115 u116 u117 u118 u119 u120 u121 u122 u123 u124 u125 u126 u127 u128 u129 u130 u131 u132 u133 u134 u135 u136 u137 u138 u139 u140 u141 u142 u143 u144 u145 u146 : Value) (w' : World), Kd.R (Kd.int .u32) 43 w' base (fun _ => True) (.slice (some ⟨gw, 0, none⟩) 64 cw) (sched2 B 48) → Below base w w' → K ⟨#[t0, t1, t2, t3, t4, .slice (some ⟨ga, 0, none⟩) n ca, t6, t7, .int .i64 p, .slice (some ⟨gw, 0, none⟩) 64 cw, u10, u11, u12, u13, t14, t15, t16, t17, t18, t19, t20, t21, t22, t23, t24, t25, t26, t27, t28, t29, t30, t31, t32, t33, t34, t35, t36, t37, t38, t39, t40, t41, t42, t43, t44, t45, t46, t47, t48, t49, t50, t51, t52, t53, t54, t55, t56, t57, t58, t59, u60, u61, u62, u63, u64, u65, u66, u67, u68, u69, u70, u71, u72, u73, u74, u75, u76, u77, u78, u79, u80, u81, u82, u83, u84, u85, u86, u87, u88, u89, u90, u91, u92, u93, u94, u95, u96, u97, u98, u99, u100, u101, u102, u103, u104, u105, u106, u107, u108, u109, u110, u111, u112, u113, u114, u115, u116, u117, u118, u119, u120, u121, u122, u123, u124, u125, u126, u127, u128, u129, u130, u131, u132, u133, u134, u135, u136, u137, u138, u139, u140, u141, u142, u143, u144, u145, u146, t147, t148, t149, t150, t151, t152, t153, t154, t155, t156, t157, t158, t159, t160, t161, t162, t163, t164, t165, t166, t167, t168, t169, t170, t171, t172, t173, t174, t175, t176, t177, t178, t179, t180, t181, t182, t183, t184, t185, t186, t187, t188, t189, t190, t191, t192, t193, t194, t195, t196, t197, t198, t199, t200, t201, t202, t203, t204, t205, t206, t207, t208, t209, t210, t211, t212, t213, t214, t215, t216, t217, t218, t219, t220, t221, t222, t223, t224, t225, t226, t227, t228, t229, t230, t231, t232, t233, t234, t235, t236, t237, t238, t239, t240, t241, t242, t243, t244, t245, t246, t247, t248, t249, t250, t251, t252, t253, t254, t255, t256, t257, t258, t259, t260, t261, t262, t263, t264, t265, t266, t267, t268, t269, t270, t271, t272, t273, t274, t275, t276, t277, t278, t279, t280, t281, t282, t283, t284, t285, t286, t287, t288, t289, t290, t291, t292, t293, t294, t295, t296, t297], []⟩ w') :
    Code.wp Try.prog (bk 6) (Exit.then K Q) ⟨#[t0, t1, t2, t3, t4, .slice (some ⟨ga, 0, none⟩) n ca, t6, t7, .int .i64 p, .slice (some ⟨gw, 0, none⟩) 64 cw, .int .i64 0, t11, t12, t13, t14, t15, t16, t17, t18, t19, t20, t21, t22, t23, t24, t25, t26, t27, t28, t29, t30, t31, t32, t33, t34, t35, t36, t37, t38, t39, t40, t41, t42, t43, t44, t45, t46, t47, t48, t49, t50, t51, t52, t53, t54, t55, t56, t57, t58, t59, t60, t61, t62, t63, t64, t65, t66, t67, t68, t69, t70, t71, t72, t73, t74, t75, t76, t77, t78, t79, t80, t81, t82, t83, t84, t85, t86, t87, t88, t89, t90, t91, t92, t93, t94, t95, t96, t97, t98, t99, t100, t101, t102, t103, t104, t105, t106, t107, t108, t109, t110, t111, t112, t113, t114, t115, t116, t117, t118, t119, t120, t121, t122, t123, t124, t125, t126, t127, t128, t129, t130, t131, t132, t133, t134, t135, t136, t137, t138, t139, t140, t141, t142, t143, t144, t145, t146, t147, t148, t149, t150, t151, t152, t153, t154, t155, t156, t157, t158, t159, t160, t161, t162, t163, t164, t165, t166, t167, t168, t169, t170, t171, t172, t173, t174, t175, t176, t177, t178, t179, t180, t181, t182, t183, t184, t185, t186, t187, t188, t189, t190, t191, t192, t193, t194, t195, t196, t197, t198, t199, t200, t201, t202, t203, t204, t205, t206, t207, t208, t209, t210, t211, t212, t213, t214, t215, t216, t217, t218, t219, t220, t221, t222, t223, t224, t225, t226, t227, t228, t229, t230, t231, t232, t233, t234, t235, t236, t237, t238, t239, t240, t241, t242, t243, t244, t245, t246, t247, t248, t249, t250, t251, t252, t253, t254, t255, t256, t257, t258, t259, t260, t261, t262, t263, t264, t265, t266, t267, t268, t269, t270, t271, t272, t273, t274, t275, t276, t277, t278, t279, t280, t281, t282, t283, t284, t285, t286, t287, t288, t289, t290, t291, t292, t293, t294, t295, t296, t297], []⟩ w := by
  have HX := Aside0.mk hX
  have HA := Aside0.mk hA
  have HK := Aside0.mk hK
  have HB : Aside0 (Below base w w) := ⟨⟨rfl, rfl, rfl, Nat.le_refl _, fun _ _ => rfl⟩⟩
  have hgw : base ≤ gw := Kd.R_base hX gw rfl
  have HBL := Aside0.mk hBL
  clear hX hA hK hBL
  conv => arg 2; whnf
  go_wp2_with (fail)
  go_loopg [10] 64 (fun gg s10 wq => ∃ i : Nat, i ≤ 64 ∧ 64 - i ≤ gg ∧ s10 = .int .i64 i ∧ Aside0 (Kd.R (Kd.int .u32) 43 wq base (fun _ => True) (.slice (some ⟨gw, 0, none⟩) 64 cw) (wS B i)) ∧ Aside0 (Below base w wq))
  case atStart => exact ⟨0, by omega, by omega, rfl, HX, HB⟩
  case round =>
    clear HX HB
    obtain ⟨i, hi, hgg, rfl, HX, HB⟩ := hrel
    by_cases hlt : i < 64
    · have hiz : (i : Int) < 64 := by omega
      have HM := Aside0.mk (show 64 - (i + 1) < gk by omega)
      by_cases h16 : i < 16
      · have hz16 : (i : Int) < 16 := by omega
        have HI := Aside0.mk h16
        have hbs := HB.out.size
        have hset : (wS B i).set i 0 = wS B i := by rw [wS_lt B i (by omega)]; exact sched1_set B i hlt
        have hx0 := HX.out
        rw [← hset] at hx0
        have hA' : ∀ j : Nat, j < 64 → wr.cell? ⟨ga, p + j, none⟩ = some (.int .u8 (rd B j)) := fun j hj => (World.cell?_of_block (a := ⟨ga, p + j, none⟩) (HB.out.block ga hga)).trans (HA.out j hj)
        have HX0 := Aside0.mk hx0
        have HA' := Aside0.mk hA'
        clear hgg hi hset hx0 hA'
        go_upto_block 8 with (fail)
        refine walk8 (xs := wS B i) B HX0.out HA'.out hga (by omega) HI.out hp hn (wS_length B i) ?_
        intro y11 y66 y67 y68 y69 y70 y71 y72 y73 y74 y75 y76 y77 y78 y79 y80 y81 y82 y83 y84 y85 y86 y87 y88 w' hR hB
        have HR := Aside0.mk hR
        have HB8 := Aside0.mk hB
        clear hR hB
        go_wp2
        go_roundg (64 - (i + 1))
        case measure => exact HM.out
        case rel =>
          have hR := HR.out
          rw [wS_next1 B HBL.out i HI.out] at hR
          exact ⟨i + 1, hlt, Nat.le_refl _, by push_cast; rfl, ⟨hR⟩, ⟨HB.out.trans HB8.out⟩⟩
      · have hxl := wS_length B i
        have hcell : ∀ m : Nat, m < 64 → wr.cell? ⟨gw, m, none⟩ = some (.int .u32 (rdOf 0 (wS B i) (m : Int))) := fun m hm => by
          have := (Kd.R_celln (0 : Int) HX.out (m : Int) (by omega) (by omega)).1
          rw [Int.toNat_natCast] at this
          exact this
        have k15 := hcell (i - 15) (by omega)
        have k2 := hcell (i - 2) (by omega)
        have k16 := hcell (i - 16) (by omega)
        have k7 := hcell (i - 7) (by omega)
        have ki := hcell i hlt
        have kf : wr.frozen? ⟨gw, i, none⟩ = false := by
          have := (Kd.R_celln (0 : Int) HX.out (i : Int) (by omega) (by omega)).2
          rw [Int.toNat_natCast] at this
          exact this
        have hz16 : decide ((i : Int) < 16) = false := decide_eq_false (by omega)
        have hw15 : IntKind.i64.wrap ((i : Int) - 15) = ((i - 15 : Nat) : Int) := by rw [wrap_small _ (by omega) (by omega)]; omega
        have hw2 : IntKind.i64.wrap ((i : Int) - 2) = ((i - 2 : Nat) : Int) := by rw [wrap_small _ (by omega) (by omega)]; omega
        have hw16 : IntKind.i64.wrap ((i : Int) - 16) = ((i - 16 : Nat) : Int) := by rw [wrap_small _ (by omega) (by omega)]; omega
        have hw7 : IntKind.i64.wrap ((i : Int) - 7) = ((i - 7 : Nat) : Int) := by rw [wrap_small _ (by omega) (by omega)]; omega
        have HI := Aside0.mk h16
        obtain ⟨j15, e15⟩ : ∃ j, j = i - 15 := ⟨_, rfl⟩
        obtain ⟨j2, e2⟩ : ∃ j, j = i - 2 := ⟨_, rfl⟩
        obtain ⟨j16, e16⟩ : ∃ j, j = i - 16 := ⟨_, rfl⟩
        obtain ⟨j7, e7⟩ : ∃ j, j = i - 7 := ⟨_, rfl⟩
        have b15 : (j15 : Int) < 64 := by omega
        have b2 : (j2 : Int) < 64 := by omega
        have b16 : (j16 : Int) < 64 := by omega
        have b7 : (j7 : Int) < 64 := by omega
        rw [← e15] at hw15 k15
        rw [← e2] at hw2 k2
        rw [← e16] at hw16 k16
        rw [← e7] at hw7 k7
        have HE := Aside0.mk (And.intro e15 (And.intro e2 (And.intro e16 e7)))
        clear e15 e2 e16 e7 hcell hgg hi h16 hxl
        obtain ⟨x, hx⟩ : ∃ x, x = rdOf (0 : Int) (wS B i) (j15 : Int) := ⟨_, rfl⟩
        obtain ⟨y, hy⟩ : ∃ y, y = rdOf (0 : Int) (wS B i) (j2 : Int) := ⟨_, rfl⟩
        rw [← hx] at k15
        rw [← hy] at k2
        have HXY := Aside0.mk (And.intro hx hy)
        clear hx hy
        go_upto_region 22 with (fail)
        go_region_held3 (fun w' => w'.cell? ⟨gw, j15, none⟩ = some (.int .u32 x)) (first | exact k15 | go_keep) (first | (go_at_call 18; (with_reducible refine (latchkeyref03_turn.calls x 7 _ _ (turn7 x)).mono ?_); rintro e w' ⟨rfl, ⟨q, rfl⟩⟩) | (go_at_call 18; (with_reducible refine (latchkeyref03_turn.calls x 18 _ _ (turn18 x)).mono ?_); rintro e w' ⟨rfl, ⟨q, rfl⟩⟩))
        rename_i qa hHd
        clear hHd
        have z2 : (wr.drewN (1 + qa + q)).cell? ⟨gw, j2, none⟩ = _ := k2
        have z16 : (wr.drewN (1 + qa + q)).cell? ⟨gw, j16, none⟩ = _ := k16
        have z7 : (wr.drewN (1 + qa + q)).cell? ⟨gw, j7, none⟩ = _ := k7
        have zi : (wr.drewN (1 + qa + q)).cell? ⟨gw, i, none⟩ = _ := ki
        have zf : (wr.drewN (1 + qa + q)).frozen? ⟨gw, i, none⟩ = _ := kf
        have HXv : Aside0 (Kd.R (Kd.int .u32) 43 (wr.drewN (1 + qa + q)) base (fun _ => True) (.slice (some ⟨gw, 0, none⟩) 64 cw) (wS B i)) := ⟨Kd.R_drewN HX.out _⟩
        have HBv : Aside0 (Below base w (wr.drewN (1 + qa + q))) := ⟨below_drewN1 HB.out _⟩
        clear k15 k2 k16 k7 ki kf HX HB
        generalize wr.drewN (1 + qa + q) = wv at z2 z16 z7 zi zf HXv HBv ⊢
        go_upto_region 23 with (fail)
        go_region_held3 (fun w' => w'.cell? ⟨gw, j2, none⟩ = some (.int .u32 y)) (first | exact z2 | go_keep) (first | (go_at_call 18; (with_reducible refine (latchkeyref03_turn.calls y 17 _ _ (turn17 y)).mono ?_); rintro e w' ⟨rfl, ⟨q, rfl⟩⟩) | (go_at_call 18; (with_reducible refine (latchkeyref03_turn.calls y 19 _ _ (turn19 y)).mono ?_); rintro e w' ⟨rfl, ⟨q, rfl⟩⟩))
        rename_i qb hHd
        clear hHd
        have y16 : (wv.drewN (1 + qb + q)).cell? ⟨gw, j16, none⟩ = _ := z16
        have y7 : (wv.drewN (1 + qb + q)).cell? ⟨gw, j7, none⟩ = _ := z7
        have yi : (wv.drewN (1 + qb + q)).cell? ⟨gw, i, none⟩ = _ := zi
        have yf : (wv.drewN (1 + qb + q)).frozen? ⟨gw, i, none⟩ = _ := zf
        have HXy : Aside0 (Kd.R (Kd.int .u32) 43 (wv.drewN (1 + qb + q)) base (fun _ => True) (.slice (some ⟨gw, 0, none⟩) 64 cw) (wS B i)) := ⟨Kd.R_drewN HXv.out _⟩
        have HBy : Aside0 (Below base w (wv.drewN (1 + qb + q))) := ⟨below_drewN1 HBv.out _⟩
        clear z2 z16 z7 zi zf HXv HBv
        generalize wv.drewN (1 + qb + q) = wu at y16 y7 yi yf HXy HBy ⊢
        go_upto_region 24 with (fail)
        go_still_tail 18, (by kernel_rfl)
        change wpList _ _ _ _ _ wu.drew
        have x1 : wu.drew.cell? ⟨gw, i, none⟩ = _ := yi
        have x2 : wu.drew.frozen? ⟨gw, i, none⟩ = _ := yf
        have HXx : Aside0 (Kd.R (Kd.int .u32) 43 wu.drew base (fun _ => True) (.slice (some ⟨gw, 0, none⟩) 64 cw) (wS B i)) := ⟨Kd.R_drew HXy.out⟩
        have HBx : Aside0 (Below base w wu.drew) := ⟨below_drew1 HBy.out⟩
        clear y16 y7 yi yf HXy HBy
        generalize wu.drew = wt at x1 x2 HXx HBx ⊢
        go_wp2
        rw [mix_eq (wS B i) i j15 j2 j16 j7 x y HE.out HXY.out.1 HXY.out.2]
        go_roundg (64 - (i + 1))
        case measure => exact HM.out
        case rel =>
          have hp := (Kd.R_putg HXx.out (i : Int) (mix (wS B i) i)).1
          rw [Int.toNat_natCast, wS_next2 B i (Nat.not_lt.1 HI.out)] at hp
          exact ⟨i + 1, hlt, Nat.le_refl _, by push_cast; rfl, ⟨hp⟩, ⟨below_set1 HBx.out hgw⟩⟩
    · obtain rfl : i = 64 := by omega
      go_wp2_with (fail)
      have hx := HX.out
      rw [wS_ge B 64 (by omega)] at hx
      exact HK.out _ _ _ _ _ _ _ _ _ _ _ _ _ _ _ _ _ _ _ _ _ _ _ _ _ _ _ _ _ _ _ _ _ _ _ _ _ _ _ _ _ _ _ _ _ _ _ _ _ _ _ _ _ _ _ _ _ _ _ _ _ _ _ _ _ _ _ _ _ _ _ _ _ _ _ _ _ _ _ _ _ _ _ _ _ _ _ _ _ _ _  _ hx HB.out
end Go.Proofs.Ytocnkfepiknglaa.PAll
