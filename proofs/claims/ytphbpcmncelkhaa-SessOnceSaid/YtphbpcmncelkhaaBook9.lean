/- Begin of sess: the path that begins. -/
import Derived.Test.YtphbpcmncelkhaaBook8
import Derived.Deep.RegionWith
import Derived.Deep.DeepCutAuto
import Derived.Deep.AppendLies
set_option linter.unusedVariables false
set_option linter.unusedSimpArgs false
namespace Go.Proofs.Ytphbpcmncelkhaa.Sess
open Go.RowKit Go.Shelf Go.Proofs.YtphbpcmncelkhaaW.PrintWords Go.Proofs.YtphbpcmncelkhaaW.PrintLast Go.Proofs.YtphbpcmncelkhaaW.PrintMore
open Go.Proofs.Ytphbpcmncelkhaa.PSessPlays

theorem ends_calls2 (g : Nat) (room life last now : Int) (v : Value) (w : World) (hg : w.heap[g]? = some (.cells #[.int .i64 room, .int .u64 life, .int .u64 last, v] 58 (0, 0))) :
    Calls Try.prog 23 #[.pointer (some ⟨g, 0, none⟩), .int .u64 now] w fun e w' => e = .returned (.int .u64 (endsS life now)) ∧ w' = w := ends_calls g room life last now v w hg

/-- What the region that makes the session leaves: block B holds it. -/
def MadeAt (wc w5 : World) (B n : Nat) (h e : Int) (u : ByteArray) (r a : Bool) (d : List Int) : Prop :=
  ∃ A6 c6, wc.heap[B]? = some (.cells #[.int .u64 h, .string u, .slice A6 n c6, .int .u64 e, .bool r, .bool a] 34 (0, 0)) ∧ (Kd.int .u8).R 5 wc w5.heap.size (fun k => w5.heap.size ≤ k) (.slice A6 n c6) d ∧ Ft (fun k => k = B) w5 wc
theorem made3 {w5 w7 : World} {B n : Nat} {A6 : Option Addr} {c6 : Nat} {h e : Int} {u : ByteArray} {r a : Bool} {d : List Int} {x0 x2 x3 : Value} (hB : B < w5.heap.size)
    (hV : (Kd.int .u8).R 5 w7 w5.drew.heap.size (fun _ => True) (.slice A6 n c6) d) (hb : Below w5.drew.heap.size w5.drew w7) (hs : w7.heap[B]? = some (.cells #[x0, .string u, x2, x3, .bool r, .bool a] 34 (0, 0))) :
    MadeAt (((w7.setCell ⟨B, 0, none⟩ (.int .u64 h)).setCell ⟨B, 2, none⟩ (.slice A6 n c6)).setCell ⟨B, 3, none⟩ (.int .u64 e)) w5 B n h e u r a d := by
  refine ⟨A6, c6, ?_, ?_, ?_⟩
  · have := blk_set (blk_set (blk_set hs 0 (.int .u64 h)) 2 (.slice A6 n c6)) 3 (.int .u64 e)
    simpa using this
  · have h1 : (Kd.int .u8).R 5 w7 w5.heap.size (fun k => w5.heap.size ≤ k) (.slice A6 n c6) d := Kd.R_mono (Kd.R_bound hV) (fun k hk => hk.2.1)
    refine Kd.R_step h1 (fun k hk _ => ?_)
    have hne : k ≠ B := fun e => by omega
    rw [Below.heap_setCell _ _ _ k hne, Below.heap_setCell _ _ _ k hne, Below.heap_setCell _ _ _ k hne]
  · have h1 : Ft (fun k => k = B) w5 w7 := ((Ft.refl (fun k => k = B) w5).drew).trans (Ft.of_below hb (fun _ => False)) (fun _ h => h.elim)
    exact ((h1.setCell (p := ⟨B, 0, none⟩) (.inl rfl) _).setCell (p := ⟨B, 2, none⟩) (.inl rfl) _).setCell (p := ⟨B, 3, none⟩) (.inl rfl) _

theorem begun {F : Nat → Prop} {w w1 : World} {g base T n : Nat} {room life last : Int} {A8 : Option Addr} {c8 : Nat} {L : List S34} {u : Value} (hb : w1.heap[g]? = some (.cells #[.int .i64 room, .int .u64 life, .int .u64 last, u] T (0, 0)))
    (hR : k34.R 34 w1 base (fun k => (F k ∨ w.heap.size ≤ k) ∧ k ≠ g) (.slice A8 n c8) L) (hg : F g) (hbg : base ≤ g) :
    BookAt (w1.setCell ⟨g, 3, none⟩ (.slice A8 n c8)) base (fun k => F k ∨ w.heap.size ≤ k) g T room life last L :=
  ⟨_, blk_set hb 3 _, .inl hg, hbg, Kd.R_step hR (fun k hk _ => Below.heap_setCell w1 ⟨g, 3, none⟩ _ k hk.2)⟩
theorem begunFt {F : Nat → Prop} {w w5 wc w1 : World} {g base : Nat} {v : Value} (h5 : Ft F w w5) (hc : Ft (fun k => k = w.heap.size) w5 wc) (hb : Below base wc.drew w1) (hg : wc.drew.grownBy w1 v.ownBlock) (ho : ∀ k, some k = v.ownBlock → F k) (hFg : F g) (u : Value) :
    Ft F w (w1.setCell ⟨g, 3, none⟩ u) := by
  have h1 : Ft F w wc.drew := (h5.trans hc (fun i hi => .inr (by omega))).drew
  have h2 : Ft F wc.drew w1 := ⟨hb.os, hb.tape, hb.output, hb.size, fun k hk hn => hg.block k hk (fun e => hn (ho k e))⟩
  exact (h1.trans h2 (fun i hi => .inl hi)).setCell (p := ⟨g, 3, none⟩) (.inl hFg) u

set_option maxHeartbeats 4000000 in
theorem begin_ok (F okS : Nat → Prop) (g base baseS : Nat) (room life last now : Int) (l : List S34) (x : Cs) (s : S34) (w : World) (hB : BookAt w base F g 58 room life last l) (hF : ∀ k, F k → k < w.heap.size) (hn : l.length ≤ 1000000)
    (hS : SessM w baseS okS x s) (hO : ∀ k, okS k → ¬ F k)
    (c1 : s.f1.toList.isEmpty = false) (c2 : ¬ 64 < (s.f1.size : Int)) (c3 : ¬ (s.f2.length : Int) < 16) (c4 : ¬ 64 < (s.f2.length : Int)) (hany : ((sweepS now l).any fun y => sameD y.f2 s.f2) = false) (c5 : ¬ room ≤ (sweepS now l).length) (c6 : last ≠ 18446744073709551615) (hl0 : 0 ≤ last) (hl1' : last ≤ 18446744073709551615) :
    Calls Try.prog 9 #[.pointer (some ⟨g, 0, none⟩), x.agg, .int .u64 now] w fun e w' => e = .returned (.tuple #[.int .u64 (last + 1), .int .i64 0]) ∧ BookAt w' base (fun k => F k ∨ w.heap.size ≤ k) g 58 room life (last + 1) (sweepS now l ++ [newS s (last + 1) (endsS life now)]) ∧ Ft F w w' := by
  obtain ⟨xh, xe, xu, xA, xn, xc, xr, xa⟩ := x
  obtain ⟨k0, k1, k3, k4, k5, k6, k7⟩ := hS
  simp only at k0 k1 k3 k4 k5 k6 k7
  subst k1 k6
  have hsw := swept_calls F okS g base baseS room life last now l xh xe xA xc xr xa s w hB hF hn k7 hO
  have hl1b : (sweepS now l).length ≤ 1000000 := Nat.le_trans (List.length_filter_le _ _) hn
  have hl1 : (sweepS now l).length ≤ 140737488355328 := Nat.le_trans (List.length_filter_le _ _) (by omega)
  have hgF := hF g (by obtain ⟨_, _, h, _⟩ := hB; exact h)
  have hr5 := Aside0.mk (show xr = s.f4 from k4)
  have hr6 := Aside0.mk (show xa = s.f5 from k5)
  have HFF := Aside0.mk hF
  clear k0 k3 k4 k5 k7 hB hF
  generalize sweepS now l = l1 at *
  have hwr : IntKind.u64.wrap (last + 1) = last + 1 := by rw [IntKind.wrap_u64]; omega
  have hneB : g ≠ w.heap.size := by have := hgF; omega
  have c6b : (last == 18446744073709551615) = false := beq_eq_false_iff_ne.2 c6
  go_enter Try.func9, Try.ntmps9
  go_upto_region 10 with (first | (go_at_call 18; refine hsw.mono ?_; rintro e w2 ⟨rfl, A2, cc2, d0, d1, d2, d3, q0, q1, q2, q3, HSIX, HBK, HR2, HC7, HFg, HK2, HF2⟩) | (go_at_call 19; refine (contains_R w.heap.size _ _ _ _ _ xA xc s.f2 HR2.out hl1 HSIX.out HC7.out).mono ?_; rw [hany]; rintro e w4 ⟨rfl, hb4⟩; obtain ⟨d40, d41, d42, d43⟩ := four ((hb4.block g (blk_lt HBK.out)).trans HBK.out); have HB4 := Aside0.mk hb4; clear hb4))
  go_quiet (fail)
  have fz4 := blk_frozen ((HB4.out.block g (blk_lt HBK.out)).trans HBK.out)
  go_upto_region 15 with (fail)
  generalize hW5 : (w4.drewN nq).setCell { block := g, off := 2 } (Value.int IntKind.u64 (last + 1)) = w5
  have hsz5 : w5.heap.size = w4.heap.size := by rw [← hW5]; simp [World.setCell, World.drewN]
  have hlt4 : w.heap.size < w4.heap.size := Nat.lt_of_lt_of_le (blk_lt HSIX.out) HB4.out.size
  have hbk5 : w5.heap[g]? = some (.cells #[.int .i64 room, .int .u64 life, .int .u64 (last + 1), .slice A2 l1.length cc2] 58 (0, 0)) := by
    rw [← hW5]
    exact blk_set (w := w4.drewN nq) ((HB4.out.block g (blk_lt HBK.out)).trans HBK.out) 2 _
  have hfar5 : ∀ k, k ≠ g → w5.heap[k]? = w4.heap[k]? := fun k hk => by rw [← hW5]; exact Below.heap_setCell (w4.drewN nq) _ _ k hk
  have hsx5 := (hfar5 w.heap.size (fun e => hneB e.symm)).trans ((HB4.out.block _ (blk_lt HSIX.out)).trans HSIX.out)
  have hK5 := Kd.R_step (Kd.R_below HK2.out HB4.out) (fun k hk _ => hfar5 k (fun e => hO k hk (by rw [e]; exact HFg.out.1)))
  have hR5 := Kd.R_step (Kd.R_below HR2.out HB4.out) (fun k hk _ => hfar5 k hk.2)
  obtain ⟨A7, c7, hA7, hc7, hC5⟩ := Kd.R_reads hK5
  injection hA7 with hA71 hA72 hA73
  rw [← hA71] at hC5
  obtain ⟨ad, rfl⟩ : ∃ ad, xA = some ad := by
    obtain ⟨ad, c, e, _⟩ := Kd.C_get hC5 (0 : Int) 0 (by omega) (by omega)
    exact ⟨ad, e⟩
  have hF5 : Ft F w w5 := by
    rw [← hW5]
    exact ((HF2.out.trans (Ft.of_below HB4.out (fun _ => False)) (fun _ h => h.elim)).drewN nq).setCell (p := ⟨g, 2, none⟩) (.inl HFg.out.1) _
  obtain ⟨e0, e1, e2, e3⟩ := four hbk5
  obtain ⟨p0, p1, p2, p3, p4, p5, p6⟩ := six hsx5
  have HC5 := Aside0.mk hC5
  have HR5 := Aside0.mk hR5
  have HF5 := Aside0.mk hF5
  have HBK5 := Aside0.mk hbk5
  have HSX5 := Aside0.mk hsx5
  have HO := Aside0.mk hO
  clear hC5 hR5 hF5 hbk5 hsx5 hK5 hfar5 hO hA71 hA72 hA73 hc7 d40 d41 d42 d43 q0 q1 q2 q3 d0 d1 d2 d3 hsw hany
  have HC5d := Aside0.mk (Kd.C_below HC5.out (below_drew (Below.refl _ _)))
  have hx6 : s.f2.length ≤ 1000000 := by omega
  go_cut [] from 65 to 77 (fun wx => Aside0 (MadeAt wx w5 w.heap.size s.f2.length (last + 1) (endsS life now) s.f1 xr xa s.f2))
  case first =>
    go_region_with (first
      | (go_at_call 22; refine (clone_calls ad xc s.f2 w5.drew HC5d.out hx6).mono ?_; rintro e w6 ⟨v6, rfl, hv6, hb6⟩; have hbk6 := (hb6.block g (blk_lt HBK5.out)).trans HBK5.out; have hsx6 := (hb6.block _ (blk_lt HSX5.out)).trans HSX5.out; obtain ⟨r0, r1, r2, r3⟩ := four hbk6; obtain ⟨s0, s1, s2, s3, s4, s5, s6⟩ := six hsx6; obtain ⟨A6, c6, rfl⟩ := Kd.R_slice hv6; have HV6 := Aside0.mk hv6; have HB6 := Aside0.mk hb6; have HBK6 := Aside0.mk hbk6; have HSX6 := Aside0.mk hsx6; clear hv6 hb6 hbk6 hsx6)
      | (go_at_call 23; refine (ends_calls2 g room life (last + 1) now _ _ HBK6.out).mono ?_; rintro e w7 ⟨rfl, rfl⟩))
    all_goals (go_wp2_with fail; go_meet; exact ⟨made3 (by omega) HV6.out HB6.out HSX6.out⟩)
  case rest =>
    obtain ⟨A6, c6, hsx, hv, hft⟩ := hcut.out
    have hbkc := hft.blk HBK5.out hneB
    obtain ⟨f0, f1, f2, f3⟩ := four hbkc
    have ffz := blk_frozen hbkc
    obtain ⟨t0, t1, t2, t3, t4, t5, t6⟩ := six hsx
    have hszc := hft.size
    have hRc : k34.R 34 wc.drew base (fun k => (F k ∨ w.heap.size ≤ k) ∧ k ≠ g) (.slice A2 l1.length cc2) l1 :=
      Kd.R_drew (Kd.R_mono (Kd.R_step HR5.out (fun k hk hlt => hft.block k hlt (fun e => absurd (HFF.out k hk.1) (by omega)))) (fun k hk => ⟨.inl hk.1, hk.2⟩))
    have hown : ∀ k, some k = (Value.slice A2 l1.length cc2).ownBlock → F k ∧ k ≠ g := fun k hk => HR5.out.1 k hk.symm
    have hMd : k34.M wc.drew base (fun k => w5.heap.size ≤ k) (newS s (last + 1) (endsS life now)) [.int .u64 (last + 1), .string s.f1, .slice A6 s.f2.length c6, .int .u64 (endsS life now), .bool s.f4, .bool s.f5] :=
      k34_mkM wc.drew base (fun k => w5.heap.size ≤ k) (newS s (last + 1) (endsS life now)) (Kd.R_drew (Kd.R_lower hv (by have := HFg.out.2; omega)))
    rw [← hr5.out, ← hr6.out] at hMd
    have hokp : ∀ k, w5.heap.size ≤ k → ((F k ∨ w.heap.size ≤ k) ∧ k ≠ g) ∧ some k ≠ (Value.slice A2 l1.length cc2).ownBlock := fun k hk =>
      ⟨⟨.inr (by omega), by omega⟩, fun e => absurd (HFF.out k (hown k e).1) (by omega)⟩
    have hfresh : ∀ k, wc.drew.heap.size ≤ k → (F k ∨ w.heap.size ≤ k) ∧ k ≠ g := fun k hk => by
      have : wc.heap.size ≤ k := hk
      exact ⟨.inr (by omega), by omega⟩
    have hbase : base ≤ wc.drew.heap.size := by
      have h1 := HFg.out.2
      show base ≤ wc.heap.size
      omega
    have hl : (l1.length + 1) * 64 ≤ 140737488355328 := by omega
    have hgd : g < wc.drew.heap.size := blk_lt hbkc
    have hgd2 : g < wc.heap.size := blk_lt hbkc
    have hgd3 : w.heap.size < wc.heap.size := blk_lt hsx
    have hgd4 : g ≠ wc.heap.size := Nat.ne_of_lt hgd2
    have hgd5 : w.heap.size ≠ wc.heap.size := Nat.ne_of_lt hgd3
    have hgo : some g ≠ (Value.slice A2 l1.length cc2).ownBlock := fun e => (hown g e).2 rfl
    have HRc := Aside0.mk hRc
    have HMd := Aside0.mk hMd
    have HBKc := Aside0.mk hbkc
    have HFt := Aside0.mk hft
    have HOwn := Aside0.mk hown
    have HSXc := Aside0.mk hsx
    have HP1 := Aside0.mk hokp
    have HP2 := Aside0.mk hfresh
    clear hRc hMd hbkc hft hown hsx hv hokp hfresh e0 e1 e2 e3 p0 p1 p2 p3 p4 p5 p6
    go_upto_region 16 with (fail)
    go_region_law (refine Kd.R_append_step k34 (w0 := wc.drew) (W := wc.drew) base rfl (.tmp 82) (.tmp 84) 43 34 _ 64 rfl Try.underlying43 info34 rfl (by decide) (by decide) (.slice A2 l1.length cc2) l1 (newS s (last + 1) (endsS life now)) [.int .u64 (last + 1), .string s.f1, .slice A6 s.f2.length c6, .int .u64 (endsS life now), .bool xr, .bool xa] (fun k => (F k ∨ w.heap.size ≤ k) ∧ k ≠ g) (fun k => w5.heap.size ≤ k) rfl rfl HMd.out HP1.out HP2.out HRc.out (Below.refl _ _) hbase hl ?_; intro v1 w1 hR1 hB1 hg1 hat1; obtain ⟨A8, c8, rfl⟩ := Kd.R_slice hR1; rw [List.length_append, List.length_singleton] at hR1; have hbk1 := (hg1.block g hgd hgo).trans HBKc.out; have g1z := blk_frozen hbk1; obtain ⟨g10, g11, g12, g13⟩ := four hbk1; have HBK1 := Aside0.mk hbk1; have HR1 := Aside0.mk hR1; have HB1 := Aside0.mk hB1; have HG1 := Aside0.mk hg1; clear hbk1 hR1 hB1 hg1 hat1)
    all_goals (go_wp2; go_ret2; exact ⟨rfl, begun HBK1.out HR1.out HFg.out.1 HFg.out.2, begunFt HF5.out HFt.out HB1.out HG1.out (fun k hk => (HOwn.out k hk).1) HFg.out.1 _⟩)

theorem begin_calls (F okS : Nat → Prop) (g base baseS : Nat) (room life last now : Int) (l : List S34) (x : Cs) (s : S34) (w : World) (hB : BookAt w base F g 58 room life last l) (hF : ∀ k, F k → k < w.heap.size) (hn : l.length ≤ 1000000)
    (hS : SessM w baseS okS x s) (hO : ∀ k, okS k → ¬ F k) (hl0 : 0 ≤ last) (hl1 : last ≤ 18446744073709551615) :
    Calls Try.prog 9 #[.pointer (some ⟨g, 0, none⟩), x.agg, .int .u64 now] w fun e w' => e = .returned (.tuple #[.int .u64 (beginS room life last l s now).1, .int .i64 (beginS room life last l s now).2.1]) ∧
      BookAt w' base (fun k => F k ∨ w.heap.size ≤ k) g 58 room life (beginS room life last l s now).2.2.1 (beginS room life last l s now).2.2.2 ∧ Ft F w w' := by
  have ref : ∀ code : Int, Calls Try.prog 9 #[.pointer (some ⟨g, 0, none⟩), x.agg, .int .u64 now] w (fun e w' => e = .returned (.tuple #[.int .u64 0, .int .i64 code]) ∧ BookAt w' base F g 58 room life last (sweepS now l) ∧ Ft F w w') →
      beginS room life last l s now = (0, code, last, sweepS now l) →
      Calls Try.prog 9 #[.pointer (some ⟨g, 0, none⟩), x.agg, .int .u64 now] w fun e w' => e = .returned (.tuple #[.int .u64 (beginS room life last l s now).1, .int .i64 (beginS room life last l s now).2.1]) ∧
      BookAt w' base (fun k => F k ∨ w.heap.size ≤ k) g 58 room life (beginS room life last l s now).2.2.1 (beginS room life last l s now).2.2.2 ∧ Ft F w w' := by
    intro code hc he
    rw [he]
    refine hc.mono ?_
    rintro e w' ⟨rfl, hb, hf⟩
    exact ⟨rfl, hb.mono (fun k hk => .inl hk), hf⟩
  cases c1 : s.f1.toList.isEmpty with
  | true =>
    refine ref 89 (begin_u1 F okS g base baseS room life last now l x s w hB hF hn hS hO c1) ?_
    unfold beginS
    rw [if_pos (.inl c1)]
  | false =>
    by_cases c2 : 64 < (s.f1.size : Int)
    · refine ref 89 (begin_u2 F okS g base baseS room life last now l x s w hB hF hn hS hO c1 c2) ?_
      unfold beginS
      rw [if_pos (.inr c2)]
    · have n1 : ¬ (s.f1.toList.isEmpty = true ∨ 64 < (s.f1.size : Int)) := by rw [c1]; rintro (h | h); cases h; exact c2 h
      by_cases c3 : (s.f2.length : Int) < 16
      · refine ref 81 (begin_d1 F okS g base baseS room life last now l x s w hB hF hn hS hO c1 c2 c3) ?_
        unfold beginS
        rw [if_neg n1, if_pos (.inl c3)]
      · by_cases c4 : 64 < (s.f2.length : Int)
        · refine ref 81 (begin_d2 F okS g base baseS room life last now l x s w hB hF hn hS hO c1 c2 c3 c4) ?_
          unfold beginS
          rw [if_neg n1, if_pos (.inr c4)]
        · have n2 : ¬ ((s.f2.length : Int) < 16 ∨ 64 < (s.f2.length : Int)) := by rintro (h | h); exact c3 h; exact c4 h
          cases hany : (sweepS now l).any fun y => sameD y.f2 s.f2 with
          | true =>
            refine ref 82 (begin_live F okS g base baseS room life last now l x s w hB hF hn hS hO c1 c2 c3 c4 hany) ?_
            unfold beginS
            rw [if_neg n1, if_neg n2, if_pos hany]
          | false =>
            have n3 : ¬ (((sweepS now l).any fun y => sameD y.f2 s.f2) = true) := by rw [hany]; simp
            by_cases c5 : room ≤ (sweepS now l).length
            · refine ref 83 (begin_full F okS g base baseS room life last now l x s w hB hF hn hS hO c1 c2 c3 c4 hany c5) ?_
              unfold beginS
              rw [if_neg n1, if_neg n2, if_neg n3, if_pos c5]
            · by_cases c6 : last = 18446744073709551615
              · refine ref 84 (begin_last F okS g base baseS room life last now l x s w hB hF hn hS hO c1 c2 c3 c4 hany c5 c6) ?_
                unfold beginS
                rw [if_neg n1, if_neg n2, if_neg n3, if_neg c5, if_pos c6]
              · have he : beginS room life last l s now = (last + 1, 0, last + 1, sweepS now l ++ [newS s (last + 1) (endsS life now)]) := by
                  unfold beginS
                  rw [if_neg n1, if_neg n2, if_neg n3, if_neg c5, if_neg c6]
                rw [he]
                exact begin_ok F okS g base baseS room life last now l x s w hB hF hn hS hO c1 c2 c3 c4 hany c5 c6 hl0 hl1

end Go.Proofs.Ytphbpcmncelkhaa.Sess
