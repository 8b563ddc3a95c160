/- SessOnce's walk. -/
import Derived.Test.YtphbpcmncelkhaaMaps
import Derived.Test.YtphbpcmncelkhaaOnce
import Derived.Deep.Cut
import Derived.Deep.CutRange
import Derived.Deep.CutBlock
namespace Go.Proofs.Ytphbpcmncelkhaa.Sess
open Go.RowKit Go.Shelf Go.Proofs.YtphbpcmncelkhaaW.PrintWords Go.Proofs.YtphbpcmncelkhaaW.PrintLast Go.Proofs.YtphbpcmncelkhaaW.PrintMore Go.Proofs.Ytphbpcmncelkhaa.PSessPlays
set_option linter.unusedVariables false
set_option linter.unusedSimpArgs false

theorem round_lt {N k g : Nat} (h : N - k ≤ g) (hk : k < N) : N - (k + 1) < g := by omega
/-- A slice of whole numbers that came in. -/
def RowAt (w : World) (A : Option Addr) (n : Nat) (K : IntKind) (lo hi : Int) : Prop :=
  n = 0 ∨ ∃ a, A = some a ∧ a.block < w.heap.size ∧ ∀ i, i < n → ∃ x, w.cell? (a.add i) = some (.int K x) ∧ lo ≤ x ∧ x ≤ hi

/-- SessOnce's state in its first loop. -/
def OnceB (w0 wr : World) (g b1 : Nat) (L last now : Int) (l : List S34) (f : Int → Option Int) (m : Nat) : Prop :=
  ∃ F : Nat → Prop, BookAt wr w0.heap.size F g 58 100 L last l ∧ (∀ k, F k → w0.heap.size ≤ k ∧ k < wr.heap.size ∧ k ≠ b1) ∧ MapU wr b1 m f ∧ Held f l last ∧ Below w0.heap.size w0 wr ∧ (0 ≤ last ∧ last ≤ m) ∧ l.length ≤ m ∧ (0 ≤ now ∧ now ≤ 40 * m) ∧ w0.heap.size ≤ b1

theorem MapU.mono {w : World} {b n n' : Nat} {f : Int → Option Int} (k : MapU w b n f) (h : n ≤ n') : MapU w b n' f := by
  obtain ⟨D, ho, hD⟩ := k
  exact ⟨D, ho.mono h, hD⟩
theorem OnceB.mono {w0 wr : World} {g b1 : Nat} {L last now : Int} {l : List S34} {f : Int → Option Int} {m m' : Nat} (k : OnceB w0 wr g b1 L last now l f m) (h : m ≤ m') : OnceB w0 wr g b1 L last now l f m' := by
  obtain ⟨F, h1, h2, h3, h4, h5, h6, h7, h8, h9⟩ := k
  exact ⟨F, h1, h2, h3.mono h, h4, h5, ⟨h6.1, by omega⟩, by omega, ⟨h8.1, by omega⟩, h9⟩
theorem below_grown {B b : Nat} {w0 w w' : World} (h : Below B w0 w) (hB : B ≤ w.heap.size) (hb : B ≤ b) (hg : w.grownBy w' (some b)) : Below B w0 w' :=
  h.trans ⟨hg.os, hg.tape, hg.output, hg.size, fun k hk => hg.block k (by omega) (fun e => by injection e with e; omega)⟩
/-- Behind a Begin of the first loop that was refused. -/
theorem once_err {w0 wr w2 w3 : World} {g b1 : Nat} {L last now' : Int} {l' : List S34} {f : Int → Option Int} {i : Nat} {F : Nat → Prop}
    (hF : ∀ k, F k → w0.heap.size ≤ k ∧ k < wr.heap.size ∧ k ≠ b1) (hM : MapU wr b1 i f) (hH : Held f l' last) (hbl : Below w0.heap.size w0 wr) (hla : 0 ≤ last ∧ last ≤ i) (hll : l'.length ≤ i) (hnow : 0 ≤ now' ∧ now' ≤ 40 * i + 40) (hb : w0.heap.size ≤ b1)
    (h2 : Below wr.heap.size wr w2) (h3 : Ft F w2 w3) (hB : BookAt w3 w0.heap.size (fun k => (F k ∨ w2.heap.size ≤ k) ∧ k < w3.heap.size) g 58 100 L last l') : OnceB w0 w3 g b1 L last now' l' f (i + 1) := by
  have s1 := hbl.size
  have s2 := h2.size
  have s3 := h3.size
  have hlt := hM.lt
  refine ⟨_, hB, fun k hk => ⟨?_, hk.2, ?_⟩, (hM.kept (fun h => (h3.block b1 (by omega) (fun h => (hF b1 h).2.2 rfl)).trans (h2.block b1 h))).mono (Nat.le_succ _), hH, ?_, ⟨hla.1, by omega⟩, by omega, ⟨hnow.1, by omega⟩, hb⟩
  · rcases hk.1 with h | h
    · exact (hF k h).1
    · omega
  · rcases hk.1 with h | h
    · exact (hF k h).2.2
    · omega
  · exact h3.below (hbl.trans (h2.mono s1)) (by omega) (fun k hk => (hF k hk).1)
/-- Behind one that has begun, and its entry into the map. -/
theorem once_ok {w0 wr w2 w3 w4 : World} {g b1 : Nat} {L last now' : Int} {l' : List S34} {f' : Int → Option Int} {i : Nat} {F : Nat → Prop}
    (hF : ∀ k, F k → w0.heap.size ≤ k ∧ k < wr.heap.size ∧ k ≠ b1) (hlt : b1 < wr.heap.size) (hH : Held f' l' last) (hbl : Below w0.heap.size w0 wr) (hla : 0 ≤ last ∧ last ≤ i + 1) (hll : l'.length ≤ i + 1) (hnow : 0 ≤ now' ∧ now' ≤ 40 * i + 40) (hb : w0.heap.size ≤ b1)
    (h2 : Below wr.heap.size wr w2) (h3 : Ft F w2 w3) (hB : BookAt w3 w0.heap.size (fun k => (F k ∨ w2.heap.size ≤ k) ∧ k < w3.heap.size) g 58 100 L last l') (hM : MapU w4 b1 (i + 1) f') (hg : w3.grownBy w4 (some b1)) : OnceB w0 w4 g b1 L last now' l' f' (i + 1) := by
  have s1 := hbl.size
  have s2 := h2.size
  have s3 := h3.size
  have s4 := hg.size
  have hne : ∀ k, ((F k ∨ w2.heap.size ≤ k) ∧ k < w3.heap.size) → k ≠ b1 := fun k hk => by
    rcases hk.1 with h | h
    · exact (hF k h).2.2
    · omega
  refine ⟨_, hB.step (fun k hk hlt => hg.block k hlt (fun e => by injection e with e; exact hne k hk e)), fun k hk => ⟨?_, by have := hk.2; omega, hne k hk⟩, hM, hH, ?_, ⟨hla.1, by omega⟩, by omega, ⟨hnow.1, by omega⟩, hb⟩
  · rcases hk.1 with h | h
    · exact (hF k h).1
    · omega
  · exact below_grown (h3.below (hbl.trans (h2.mono s1)) (by omega) (fun k hk => (hF k hk).1)) (by omega) hb hg

/-- SessOnce's state in its second loop. -/
def OnceC (w0 wr : World) (g b1 b2 : Nat) (L last : Int) (l : List S34) (f : Int → Option Int) (gm : Int → Bool) (m : Nat) : Prop :=
  ∃ F : Nat → Prop, BookAt wr w0.heap.size F g 58 100 L last l ∧ (∀ k, F k → w0.heap.size ≤ k ∧ k < wr.heap.size ∧ k ≠ b1 ∧ k ≠ b2) ∧ MapU wr b1 60 f ∧ MapB wr b2 m gm ∧ Held f l last ∧ Gone gm l ∧ Below w0.heap.size w0 wr ∧ l.length ≤ 60 ∧ w0.heap.size ≤ b1 ∧ w0.heap.size ≤ b2 ∧ b1 ≠ b2
theorem once_c {w0 wc : World} {g b1 : Nat} {L last now : Int} {l : List S34} {f : Int → Option Int} (k : OnceB w0 wc g b1 L last now l f 60) : OnceC w0 (wc.alloc (.map #[] 0)) g b1 wc.heap.size L last l f (fun _ => false) 0 := by
  obtain ⟨F, h1, h2, h3, h4, h5, h6, h7, h8, h9⟩ := k
  have hb : Below wc.heap.size wc (wc.alloc (.map #[] 0)) := below_alloc (Below.refl _ _) _
  have hs : (wc.alloc (.map #[] 0)).heap.size = wc.heap.size + 1 := by simp
  have hlt := h3.lt
  have := h5.size
  refine ⟨F, h1.step (fun k _ hk => hb.block k hk), fun k hk => ⟨(h2 k hk).1, by have := (h2 k hk).2.1; omega, (h2 k hk).2.2, by have := (h2 k hk).2.1; omega⟩, h3.kept (fun h => hb.block b1 h), MapB.made wc, h4, fun y hy => rfl, h5.trans (hb.mono (by omega)), h7, h9, by omega, by omega⟩

/-- Behind a round of the second loop. -/
theorem once_round {w0 wr w4 w5 w6 : World} {g b1 b2 m : Nat} {L last : Int} {l2 : List S34} {f : Int → Option Int} {g' : Int → Bool} {F : Nat → Prop}
    (hF : ∀ k, F k → w0.heap.size ≤ k ∧ k < wr.heap.size ∧ k ≠ b1 ∧ k ≠ b2) (hbl : Below w0.heap.size w0 wr) (h4 : Ft F wr w4) (h5 : Below w4.heap.size w4 w5) (hg : w5.grownBy w6 (some b2)) (hB : BookAt w4 w0.heap.size F g 58 100 L last l2)
    (hMU : MapU wr b1 60 f) (hMB : MapB w6 b2 (m + 1) g') (hH : Held f l2 last) (hG : Gone g' l2) (hl : l2.length ≤ 60) (hb1 : w0.heap.size ≤ b1) (hb2 : w0.heap.size ≤ b2) (hne : b1 ≠ b2) : OnceC w0 w6 g b1 b2 L last l2 f g' (m + 1) := by
  have s1 := hbl.size
  have s4 := h4.size
  have s5 := h5.size
  have s6 := hg.size
  have hlt := hMU.lt
  refine ⟨F, hB.step (fun k hk hlt => (hg.block k (by omega) (fun e => by injection e with e; exact (hF k hk).2.2.2 e)).trans (h5.block k hlt)), fun k hk => ⟨(hF k hk).1, by have := (hF k hk).2.1; omega, (hF k hk).2.2⟩, hMU.kept (fun h => ?_), hMB, hH, hG, ?_, hl, hb1, hb2, hne⟩
  · exact (hg.block b1 (by omega) (fun e => by injection e with e; exact hne e)).trans ((h5.block b1 (by omega)).trans (h4.block b1 h (fun h => (hF b1 h).2.2.1 rfl)))
  · exact below_grown ((h4.below hbl s1 (fun k hk => (hF k hk).1)).trans (h5.mono (by omega))) (by omega) hb2 hg

set_option maxHeartbeats 16000000 in
set_option maxRecDepth 100000 in
theorem once_walk (life : Int) (hl0 : 0 ≤ life) (hl1 : life ≤ 255) (A1 : Option Addr) (n1 c1 : Nat) (A2 : Option Addr) (n2 c2 : Nat) (w : World) (hn1 : n1 ≤ 9223372036854775807) (hn2 : n2 ≤ 9223372036854775807) (hr1 : RowAt w A1 n1 .u8 0 255) (hr2 : RowAt w A2 n2 .i64 (-9223372036854775808) 9223372036854775807) :
    Calls Try.prog 3 #[.int .u8 life, .slice A1 n1 c1, .slice A2 n2 c2] w fun e w' => e = .returned (.bool true) ∧ Below w.heap.size w w' := by
  have hu34 := Try.underlying34
  have hmm := @run_makeMap Try.prog
  have HR1 := Aside0.mk hr1
  have HR2 := Aside0.mk hr2
  clear hr1 hr2
  obtain ⟨L, hL, hL1, hL2⟩ : ∃ L, 1 + life = L ∧ 1 ≤ L ∧ L ≤ 256 := ⟨_, rfl, by omega, by omega⟩
  have HL := Aside0.mk hL
  clear hL
  go_enter Try.func3, Try.ntmps3
  go_upto_block 0 with (first | (go_at_call 7; refine (awake_calls _).mono ?_; rintro e w1 ⟨rfl, hb1⟩; have HB1 := Aside0.mk hb1; clear hb1) | (go_at_call 8; rw [HL.out]; refine (new_calls 100 L 0 _).mono ?_; rintro e w2 ⟨rfl, hw2⟩; have HW2 := Aside0.mk hw2; clear hw2))
  obtain ⟨w3, hw3⟩ : ∃ W, W = w2.alloc (.map #[] 0) := ⟨_, rfl⟩
  rw [← hw3]
  have hob : OnceB w w3 w1.heap.size w2.heap.size L 0 0 [] (fun _ => none) 0 := by
    have hb2 : Below w1.heap.size w1 w2 := by rw [HW2.out]; exact below_alloc (Below.refl _ _) _
    have hb3 : Below w2.heap.size w2 w3 := by rw [hw3]; exact below_alloc (Below.refl _ _) _
    have hs2 : w2.heap.size = w1.heap.size + 1 := by rw [HW2.out]; simp
    have hs3 : w3.heap.size = w2.heap.size + 1 := by rw [hw3]; simp
    have hs1 := HB1.out.size
    refine ⟨fun k => k = w1.heap.size, ?_, fun k hk => by omega, ?_, Held.start, (HB1.out.trans (hb2.mono hs1)).trans (hb3.mono (by omega)), ⟨by omega, by omega⟩, Nat.le_refl _, ⟨by omega, by omega⟩, by omega⟩
    · have h1 : BookAt w2 w.heap.size (fun k => k = w1.heap.size) w1.heap.size 58 100 L 0 [] := by rw [HW2.out]; exact bookAt_new 58 100 L 0 w1 w.heap.size hs1
      exact h1.step (fun k _ hk => hb3.block k hk)
    · rw [hw3]; exact MapU.made w2
  have HOB := Aside0.mk hob
  clear hob hw3 HB1 HW2
  generalize w1.heap.size = g at HOB ⊢
  generalize w2.heap.size = b1 at HOB ⊢
  clear w1 w2
  go_cut [9, 11, 12, 13, 14, 15, 16] from 35 (fun s9 s11 s12 s13 s14 s15 s16 wx => ∃ (now last : Int) (l : List S34) (f : Int → Option Int), s9 = .int .u64 now ∧ Aside0 (OnceB w wx g b1 L last now l f 60))
  case first =>
    go_wp2_with fail
    go_loopg [9, 35] n1 (fun gg s9 s35 wr => ∃ (i : Nat) (now last : Int) (l : List S34) (f : Int → Option Int), i ≤ n1 ∧ i ≤ 60 ∧ n1 - i ≤ gg ∧ s35 = .int .i64 i ∧ s9 = .int .u64 now ∧ Aside0 (OnceB w wr g b1 L last now l f i))
    case atStart => exact ⟨0, 0, 0, [], _, Nat.zero_le _, by omega, by omega, rfl, rfl, HOB⟩
    case round =>
      obtain ⟨i, now, last, l, f, hi, hi2, hgg, rfl, rfl, HI⟩ := hrel
      clear HOB
      by_cases hlt : i < n1
      · have hltz : (i : Int) < (n1 : Int) := by omega
        obtain ⟨a, rfl, hab, x, hx, hx0, hx1⟩ : ∃ a, A1 = some a ∧ a.block < w.heap.size ∧ ∃ x, w.cell? (a.add i) = some (.int .u8 x) ∧ 0 ≤ x ∧ x ≤ 255 := by
          rcases HR1.out with h | ⟨a, h1, h2, h3⟩
          · omega
          · exact ⟨a, h1, h2, h3 i hlt⟩
        have hpb : (a.add i).block = a.block := by unfold Addr.add; split <;> rfl
        have hxr : wr.cell? (a.add i) = some (.int .u8 x) := by
          obtain ⟨F, -, -, -, -, hbl, -⟩ := HI.out
          exact (hbl.cell (by rw [hpb]; exact hab)).trans hx
        clear hx hpb
        by_cases hbr : 60 ≤ i
        · have hbz : (60 : Int) ≤ (i : Int) := by omega
          go_wp2
          go_meet
          exact ⟨now, last, l, f, rfl, ⟨HI.out.mono hi2⟩⟩
        · have hbz : ¬ (60 : Int) ≤ (i : Int) := by omega
          obtain ⟨F, hbk, hF, hM, hH, hbl, hla, hll, hnow, hb⟩ := HI.out
          obtain ⟨nw, hnw⟩ : ∃ nw, now + x % 40 = nw := ⟨_, rfl⟩
          have hnw2 : 0 ≤ nw ∧ nw ≤ 40 * (i : Int) + 40 := by omega
          have hcs := once_begin L last nw (3 * (i : Int)) l ⟨hL1, hL2⟩ ⟨hla.1, by omega⟩ (by omega) ⟨by omega, by omega⟩
          have HNW := Aside0.mk hnw
          have HBK := Aside0.mk hbk
          have HF := Aside0.mk hF
          have HM := Aside0.mk hM
          have HH := Aside0.mk hH
          have HBL := Aside0.mk hbl
          have HLA := Aside0.mk hla
          have HLL := Aside0.mk hll
          have HB := Aside0.mk hb
          clear hnw hbk hF hM hH hbl hla hll hb
          rcases hcs with hcs | hcs
          · have HCS := Aside0.mk hcs
            clear hcs
            go_wp2_with (first | (go_at_call 10; rw [HNW.out]; refine (draw_calls (3 * (i : Int)) 40 (by omega) wr).mono ?_; rintro e w2 ⟨A, c, rfl, hr, hd⟩; have HR := Aside0.mk hr; have HD := Aside0.mk hd; clear hr hd) | (go_at_call 9; refine (begin_drawn F g w.heap.size 100 L last nw l 0 ⟨#[117]⟩ 0 false false A c (drawL (3 * (i : Int)) 40) wr w2 HBK.out (fun k hk => (HF.out k hk).2.1) (by have := HLL.out; omega) HD.out HR.out HLA.out.1 (by have := HLA.out.2; omega) _ HCS.out).mono ?_; rintro e w3 ⟨rfl, hb3, hf3⟩; have HB3 := Aside0.mk hb3; have HF3 := Aside0.mk hf3; clear hb3 hf3))
            have hend := Aside0.mk (once_err HF.out HM.out (HH.out.sub (List.filter_sublist (p := fun y => decide (nw < y.f3)))) HBL.out HLA.out (Nat.le_trans (List.length_filter_le _ _) HLL.out) hnw2 HB.out HD.out HF3.out HB3.out)
            have hm1 := Aside0.mk (round_lt hgg hlt)
            go_roundg (n1 - (i + 1))
            case measure => exact hm1.out
            case rel => exact ⟨i + 1, nw, last, _, f, hlt, Nat.lt_of_not_le hbr, Nat.le_refl _, by push_cast; rfl, rfl, hend⟩
          · have HCS := Aside0.mk hcs
            clear hcs
            have hnone : f (last + 1) = none := by
              cases hfl : f (last + 1) with
              | none => rfl
              | some v => have := HH.out.key (last + 1) (by rw [hfl]; rfl); omega
            have HNO := Aside0.mk hnone
            clear hnone
            have hokh : OkU (last + 1) := ⟨by have := HLA.out.1; omega, by have := HLA.out.2; omega⟩
            have hokv : OkU (nw + L) := ⟨by omega, by omega⟩
            have HOKH := Aside0.mk hokh
            have HOKV := Aside0.mk hokv
            clear hokh hokv
            go_wp2_with (first | (go_at_call 10; rw [HNW.out]; refine (draw_calls (3 * (i : Int)) 40 (by omega) wr).mono ?_; rintro e w2 ⟨A, c, rfl, hr, hd⟩; have HR := Aside0.mk hr; have HD := Aside0.mk hd; clear hr hd) | (go_at_call 9; refine (begin_drawn F g w.heap.size 100 L last nw l 0 ⟨#[117]⟩ 0 false false A c (drawL (3 * (i : Int)) 40) wr w2 HBK.out (fun k hk => (HF.out k hk).2.1) (by have := HLL.out; omega) HD.out HR.out HLA.out.1 (by have := HLA.out.2; omega) _ HCS.out).mono ?_; rintro e w3 ⟨rfl, hb3, hf3⟩; have hm3 := HM.out.kept (w' := w3) (fun h => (hf3.block b1 (Nat.lt_of_lt_of_le h HD.out.size) (fun h => (HF.out b1 h).2.2 rfl)).trans (HD.out.block b1 h)); have hlk := hm3.look HOKH.out; rw [HNO.out] at hlk; obtain ⟨w4, hput, hm4, hg4⟩ := hm3.put HOKH.out HOKV.out (by unfold maxLen; omega); have HB3 := Aside0.mk hb3; have HF3 := Aside0.mk hf3; have HM4 := Aside0.mk hm4; have HG4 := Aside0.mk hg4; clear hb3 hf3 hm3 hm4 hg4))
            have hll2 : (sweepS nw l ++ [newS (onceS (3 * (i : Int))) (last + 1) (nw + L)]).length ≤ i + 1 := by
              rw [List.length_append]
              exact Nat.add_le_add_right (Nat.le_trans (List.length_filter_le _ _) HLL.out) 1
            have hla2 : 0 ≤ last + 1 ∧ last + 1 ≤ (i : Int) + 1 := ⟨by have := HLA.out.1; omega, by have := HLA.out.2; omega⟩
            have hend := Aside0.mk (once_ok HF.out HM.out.lt ((HH.out.sub (List.filter_sublist (p := fun y => decide (nw < y.f3)))).add (onceS (3 * (i : Int))) (nw + L)) HBL.out hla2 hll2 hnw2 HB.out HD.out HF3.out HB3.out HM4.out HG4.out)
            have hm1 := Aside0.mk (round_lt hgg hlt)
            go_roundg (n1 - (i + 1))
            case measure => exact hm1.out
            case rel => exact ⟨i + 1, nw, last + 1, _, _, hlt, Nat.lt_of_not_le hbr, Nat.le_refl _, by push_cast; rfl, rfl, hend⟩
      · have hltz : ¬ (i : Int) < (n1 : Int) := by omega
        have hltq : decide ((i : Int) < (n1 : Int)) = false := decide_eq_false hltz
        go_wp2
        go_meet
        exact ⟨now, last, l, f, rfl, ⟨HI.out.mono hi2⟩⟩
  case rest =>
    obtain ⟨now, last, l, f, rfl, HC⟩ := hcut
    clear HOB
    go_wp2
    obtain ⟨w4, hw4⟩ : ∃ W, W = wc.alloc (.map #[] 0) := ⟨_, rfl⟩
    rw [← hw4]
    have hoc := once_c HC.out
    rw [← hw4] at hoc
    have HOC := Aside0.mk hoc
    clear hoc hw4 HC
    generalize wc.heap.size = b2 at HOC ⊢
    clear wc
    go_loopg [9, 78] n2 (fun gg s9 s78 wr => ∃ (j : Nat) (now : Int) (l : List S34) (gm : Int → Bool), j ≤ n2 ∧ j ≤ 100 ∧ n2 - j ≤ gg ∧ s78 = .int .i64 j ∧ s9 = .int .u64 now ∧ Aside0 (OnceC w wr g b1 b2 L last l f gm j))
    case atStart => exact ⟨0, now, l, _, Nat.zero_le _, by omega, by omega, rfl, rfl, HOC⟩
    case round =>
      obtain ⟨j, now, l, gm, hj, hj2, hgg, rfl, rfl, HI⟩ := hrel
      clear HOC
      by_cases hlt : j < n2
      · have hltz : (j : Int) < (n2 : Int) := by omega
        obtain ⟨a, rfl, hab, x, hx, hx0, hx1⟩ : ∃ a, A2 = some a ∧ a.block < w.heap.size ∧ ∃ x, w.cell? (a.add j) = some (.int .i64 x) ∧ -9223372036854775808 ≤ x ∧ x ≤ 9223372036854775807 := by
          rcases HR2.out with h | ⟨a, h1, h2, h3⟩
          · omega
          · exact ⟨a, h1, h2, h3 j hlt⟩
        have hpb : (a.add j).block = a.block := by unfold Addr.add; split <;> rfl
        have hxr : wr.cell? (a.add j) = some (.int .i64 x) := by
          obtain ⟨F, -, -, -, -, -, -, hbl, -⟩ := HI.out
          exact (hbl.cell (by rw [hpb]; exact hab)).trans hx
        clear hx hpb
        by_cases hbr : 100 ≤ j
        · have hbz : (100 : Int) ≤ (j : Int) := by omega
          have hbl : Below w.heap.size w wr := by
            obtain ⟨F, -, -, -, -, -, -, hbl, -⟩ := HI.out
            exact hbl
          have HBL := Aside0.mk hbl
          clear hbl
          go_wp2
          go_ret
          exact ⟨rfl, HBL.out⟩
        · have hbz : ¬ (100 : Int) ≤ (j : Int) := by omega
          obtain ⟨F, hbk, hF, hMU, hMB, hH, hG, hbl, hll, hbb⟩ := HI.out
          obtain ⟨h, hh⟩ : ∃ h, (IntKind.u64.wrap x).tmod 64 = h := ⟨_, rfl⟩
          obtain ⟨nw, hnw⟩ : ∃ nw, IntKind.u64.wrap (now + (j : Int) % 3) = nw := ⟨_, rfl⟩
          have hok : OkU h := by
            have hw : 0 ≤ IntKind.u64.wrap x := by rw [IntKind.wrap_u64]; omega
            rw [← hh, Int.tmod_eq_emod_of_nonneg hw]
            constructor <;> omega
          obtain ⟨y, code, l2, ho, hH2, hG2, hl2, hcode⟩ := take_round (h := h) (now := nw) hH hG
          have hm1 := Aside0.mk (round_lt hgg hlt)
          have HNH := Aside0.mk hh
          have HNW := Aside0.mk hnw
          have HOK := Aside0.mk hok
          have HBK := Aside0.mk hbk
          have HF := Aside0.mk hF
          have HMU := Aside0.mk hMU
          have HMB := Aside0.mk hMB
          have HBL := Aside0.mk hbl
          have HLL := Aside0.mk hll
          have HBB := Aside0.mk hbb
          have HO := Aside0.mk ho
          have HH2 := Aside0.mk hH2
          have HG2 := Aside0.mk hG2
          have HL2 := Aside0.mk hl2
          clear hh hnw hok hbk hF hMU hMB hH hG hbl hll hbb ho hH2 hG2 hl2
          rcases hcode with rfl | ⟨rfl, hgh⟩ | ⟨rfl, hgh, hfh, hyh, hty⟩
          · have hsp : gm h = true ∨ gm h = false := by cases gm h <;> simp
            go_upto_region 29 with (go_at_call 11; rw [HNH.out, HNW.out]; refine (take_own F g w.heap.size 100 L last h nw l wr HBK.out (fun k hk => (HF.out k hk).2.1) (by have := HLL.out; omega) _ HO.out).mono ?_; rintro e w4 ⟨A4, c4, rfl, hr4, hb4, hf4⟩; have HB4 := Aside0.mk hb4; have HF4 := Aside0.mk hf4; clear hr4 hb4 hf4)
            obtain ⟨w5, hw5, hx5, hb5⟩ : ∃ W, W = w4.alloc (.cells #[.int .u64 y.f0, .string y.f1, .slice A4 y.f2.length c4, .int .u64 y.f3, .bool y.f4, .bool y.f5] 34) ∧ W.heap[w4.heap.size]? = some (.cells #[.int .u64 y.f0, .string y.f1, .slice A4 y.f2.length c4, .int .u64 y.f3, .bool y.f4, .bool y.f5] 34 (0, 0)) ∧ Below w4.heap.size w4 W := ⟨_, rfl, blk_new _ _, below_alloc (Below.refl _ _) _⟩
            rw [← hw5]
            clear hw5
            obtain ⟨x0, x1, x2, x3, x4, x5, x6⟩ := six hx5
            have hx5lt := blk_lt hx5
            have hmu := HMU.out.kept (w' := w5) (fun hk => (hb5.block b1 (Nat.lt_of_lt_of_le hk HF4.out.size)).trans (HF4.out.block b1 hk (fun hk => (HF.out b1 hk).2.2.1 rfl)))
            have hmb := HMB.out.kept (w' := w5) (fun hk => (hb5.block b2 (Nat.lt_of_lt_of_le hk HF4.out.size)).trans (HF4.out.block b2 hk (fun hk => (HF.out b2 hk).2.2.2 rfl)))
            have hlu := hmu.look HOK.out
            have hlb := hmb.look HOK.out
            obtain ⟨w6, hput, hmb6, hg6⟩ := hmb.put (v := true) HOK.out (by unfold maxLen; omega)
            have HB5 := Aside0.mk hb5
            have hend := Aside0.mk (once_round HF.out HBL.out HF4.out HB5.out hg6 HB4.out HMU.out hmb6 HH2.out HG2.out (Nat.le_trans HL2.out HLL.out) HBB.out.1 HBB.out.2.1 HBB.out.2.2)
            clear hx5 hmu hmb hb5 hmb6 hg6
            rcases hsp with hsp | hsp
            · rw [hsp] at hlb
              go_wp2
              go_roundg (n2 - (j + 1))
              case measure => exact hm1.out
              case rel => exact ⟨j + 1, nw, l2, _, hlt, Nat.lt_of_not_le hbr, Nat.le_refl _, by push_cast; rfl, rfl, hend⟩
            · rw [hsp] at hlb
              go_wp2
              go_roundg (n2 - (j + 1))
              case measure => exact hm1.out
              case rel => exact ⟨j + 1, nw, l2, _, hlt, Nat.lt_of_not_le hbr, Nat.le_refl _, by push_cast; rfl, rfl, hend⟩
          · have HGH := Aside0.mk hgh
            clear hgh
            go_upto_region 29 with (go_at_call 11; rw [HNH.out, HNW.out]; refine (take_own F g w.heap.size 100 L last h nw l wr HBK.out (fun k hk => (HF.out k hk).2.1) (by have := HLL.out; omega) _ HO.out).mono ?_; rintro e w4 ⟨A4, c4, rfl, hr4, hb4, hf4⟩; have HB4 := Aside0.mk hb4; have HF4 := Aside0.mk hf4; clear hr4 hb4 hf4)
            obtain ⟨w5, hw5, hx5, hb5⟩ : ∃ W, W = w4.alloc (.cells #[.int .u64 y.f0, .string y.f1, .slice A4 y.f2.length c4, .int .u64 y.f3, .bool y.f4, .bool y.f5] 34) ∧ W.heap[w4.heap.size]? = some (.cells #[.int .u64 y.f0, .string y.f1, .slice A4 y.f2.length c4, .int .u64 y.f3, .bool y.f4, .bool y.f5] 34 (0, 0)) ∧ Below w4.heap.size w4 W := ⟨_, rfl, blk_new _ _, below_alloc (Below.refl _ _) _⟩
            rw [← hw5]
            clear hw5
            obtain ⟨x0, x1, x2, x3, x4, x5, x6⟩ := six hx5
            have hx5lt := blk_lt hx5
            have hmu := HMU.out.kept (w' := w5) (fun hk => (hb5.block b1 (Nat.lt_of_lt_of_le hk HF4.out.size)).trans (HF4.out.block b1 hk (fun hk => (HF.out b1 hk).2.2.1 rfl)))
            have hmb := HMB.out.kept (w' := w5) (fun hk => (hb5.block b2 (Nat.lt_of_lt_of_le hk HF4.out.size)).trans (HF4.out.block b2 hk (fun hk => (HF.out b2 hk).2.2.2 rfl)))
            have hlu := hmu.look HOK.out
            have hlb := hmb.look HOK.out
            obtain ⟨w6, hput, hmb6, hg6⟩ := hmb.put (v := true) HOK.out (by unfold maxLen; omega)
            have HB5 := Aside0.mk hb5
            have hend := Aside0.mk (once_round HF.out HBL.out HF4.out HB5.out hg6 HB4.out HMU.out hmb6 HH2.out HG2.out (Nat.le_trans HL2.out HLL.out) HBB.out.1 HBB.out.2.1 HBB.out.2.2)
            clear hx5 hmu hmb hb5 hmb6 hg6
            rw [HGH.out] at hlb
            go_wp2
            go_roundg (n2 - (j + 1))
            case measure => exact hm1.out
            case rel => exact ⟨j + 1, nw, l2, _, hlt, Nat.lt_of_not_le hbr, Nat.le_refl _, by push_cast; rfl, rfl, hend⟩
          · have HGH := Aside0.mk hgh
            have HFH := Aside0.mk hfh
            have HYH := Aside0.mk hyh
            have hqt : decide (y.f3 ≤ nw) = false := decide_eq_false (by omega)
            have hqn : ¬ y.f3 ≤ nw := by omega
            clear hgh hfh hyh hty
            go_upto_region 29 with (go_at_call 11; rw [HNH.out, HNW.out]; refine (take_own F g w.heap.size 100 L last h nw l wr HBK.out (fun k hk => (HF.out k hk).2.1) (by have := HLL.out; omega) _ HO.out).mono ?_; rintro e w4 ⟨A4, c4, rfl, hr4, hb4, hf4⟩; have HB4 := Aside0.mk hb4; have HF4 := Aside0.mk hf4; clear hr4 hb4 hf4)
            obtain ⟨w5, hw5, hx5, hb5⟩ : ∃ W, W = w4.alloc (.cells #[.int .u64 y.f0, .string y.f1, .slice A4 y.f2.length c4, .int .u64 y.f3, .bool y.f4, .bool y.f5] 34) ∧ W.heap[w4.heap.size]? = some (.cells #[.int .u64 y.f0, .string y.f1, .slice A4 y.f2.length c4, .int .u64 y.f3, .bool y.f4, .bool y.f5] 34 (0, 0)) ∧ Below w4.heap.size w4 W := ⟨_, rfl, blk_new _ _, below_alloc (Below.refl _ _) _⟩
            rw [← hw5]
            clear hw5
            obtain ⟨x0, x1, x2, x3, x4, x5, x6⟩ := six hx5
            have hx5lt := blk_lt hx5
            have hmu := HMU.out.kept (w' := w5) (fun hk => (hb5.block b1 (Nat.lt_of_lt_of_le hk HF4.out.size)).trans (HF4.out.block b1 hk (fun hk => (HF.out b1 hk).2.2.1 rfl)))
            have hmb := HMB.out.kept (w' := w5) (fun hk => (hb5.block b2 (Nat.lt_of_lt_of_le hk HF4.out.size)).trans (HF4.out.block b2 hk (fun hk => (HF.out b2 hk).2.2.2 rfl)))
            have hlu := hmu.look HOK.out
            have hlb := hmb.look HOK.out
            obtain ⟨w6, hput, hmb6, hg6⟩ := hmb.put (v := true) HOK.out (by unfold maxLen; omega)
            have HB5 := Aside0.mk hb5
            have hend := Aside0.mk (once_round HF.out HBL.out HF4.out HB5.out hg6 HB4.out HMU.out hmb6 HH2.out HG2.out (Nat.le_trans HL2.out HLL.out) HBB.out.1 HBB.out.2.1 HBB.out.2.2)
            clear hx5 hmu hmb hb5 hmb6 hg6
            rw [HGH.out] at hlb
            rw [HFH.out] at hlu
            simp only [Option.getD_some, Option.isSome_some] at hlu
            rw [HYH.out] at x0
            go_wp2
            go_roundg (n2 - (j + 1))
            case measure => exact hm1.out
            case rel => exact ⟨j + 1, nw, l2, _, hlt, Nat.lt_of_not_le hbr, Nat.le_refl _, by push_cast; rfl, rfl, hend⟩
      · have hltz : ¬ (j : Int) < (n2 : Int) := by omega
        have hltq : decide ((j : Int) < (n2 : Int)) = false := decide_eq_false hltz
        have hbl : Below w.heap.size w wr := by
          obtain ⟨F, -, -, -, -, -, -, hbl, -⟩ := HI.out
          exact hbl
        have HBL := Aside0.mk hbl
        clear hbl
        go_wp2
        go_ret
        exact ⟨rfl, HBL.out⟩

end Go.Proofs.Ytphbpcmncelkhaa.Sess
