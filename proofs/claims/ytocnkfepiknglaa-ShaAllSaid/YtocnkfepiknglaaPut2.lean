/- (*sha.Hash).Put again: where the bytes that are left lie; bytes of no length from wherever. -/
import Derived.Test.YtocnkfepiknglaaPut
import Derived.Shelf.GgClosure.Gives
import Derived.Outline
import Derived.Deep.DeepMust
namespace Go.Proofs.Ytocnkfepiknglaa.PAll
open Go.RowKit Go.Proofs.YtocnkfepiknglaaW.PrintWords Go.Proofs.YtocnkfepiknglaaW.PrintLast Go.Proofs.YtocnkfepiknglaaW.PrintMore
set_option linter.unusedVariables false
set_option linter.unusedSimpArgs false

/-- The bytes that are left lie in a block of F. -/
def RestIn (w : World) (g : Nat) (F : Nat → Prop) : Prop := ∀ rv, w.cell? ⟨g, 9, none⟩ = some rv → ∀ k, rv.ownBlock = some k → F k
theorem C_far0 {w : World} {A : Option Addr} {n g i : Nat} {ys : List Int} (h : Kd.C (Kd.int .u8) w A n ys) (hg : 0 < n → ∀ a, A = some a → a.block ≠ g) (v : Value) : Kd.C (Kd.int .u8) (w.setCell ⟨g, i, none⟩ v) A n ys := by
  rcases Nat.eq_zero_or_pos n with h0 | h0
  · exact ⟨h.1, h.2.1, fun h1 => by omega⟩
  · exact C_far h (hg h0) v
theorem rest_set {w : World} {g : Nat} {F : Nat → Prop} {cs : Array Value} {t : TypeId} (h : w.heap[g]? = some (.cells cs t (0, 0))) (hs : 9 < cs.size) {v : Value} (hv : ∀ k, v.ownBlock = some k → F k) : RestIn (w.setCell ⟨g, 9, none⟩ v) g F := by
  intro rv hr
  rw [blk_cell (blk_set h 9 v) 9, Array.getElem?_setIfInBounds_self_of_lt hs] at hr
  injection hr with hr
  subst hr
  exact hv
theorem rest_mono {w : World} {g : Nat} {F G : Nat → Prop} (h : RestIn w g F) (hFG : ∀ k, F k → G k) : RestIn w g G := fun rv hr k hk => hFG k (h rv hr k hk)
theorem drop_own {A : Option Addr} {n c m m' c' : Nat} {F : Nat → Prop} (h : ∀ k, (Value.slice A n c).ownBlock = some k → F k) : ∀ k, (Value.slice (if c = m then A else A.map (·.add m)) m' c').ownBlock = some k → F k := by
  intro k hk
  refine h k ?_
  cases A with
  | none => split at hk <;> simp [Value.ownBlock] at hk
  | some a =>
    have e : (a.add m).block = a.block := by unfold Addr.add; split <;> rfl
    split at hk
    · exact hk
    · simp only [Option.map_some, Value.ownBlock] at hk ⊢
      rw [e] at hk
      exact hk

/-- Blocks that are neither g nor of F lie as they lay. -/
def KeepF (w w' : World) (g : Nat) (F : Nat → Prop) : Prop := ∀ k, k < w.heap.size → k ≠ g → ¬ F k → w'.heap[k]? = w.heap[k]?

theorem keepF_step {w wr w4 : World} {g : Nat} {F : Nat → Prop} (h : KeepF w wr g F) (hg : wr.grownBy w4 (some g)) (hs : w.heap.size ≤ wr.heap.size) (v : Value) : KeepF w (w4.setCell ⟨g, 9, none⟩ v) g F := fun k hk hkg hkF => by
  rw [Below.heap_setCell w4 ⟨g, 9, none⟩ v k hkg, hg.block k (by omega) (fun e => hkg (by injection e))]
  exact h k hk hkg hkF

set_option maxHeartbeats 8000000 in
set_option maxRecDepth 100000 in
theorem put_callsF (F : Nat → Prop) (base g t ct : Nat) (s : St) (xs b : List Int) (sz : Int) (A : Option Addr) (c : Nat) (w : World) (hH : HashAt w base g t ct s xs sz) (hbase : base ≤ w.heap.size) (hx : xs.length < 64) (hb : Kd.C (Kd.int .u8) w A b.length b) (hbg : 0 < b.length → ∀ a, A = some a → a.block ≠ g) (hF : RestIn w g F) (hby : ByteL b) (hbl : b.length ≤ 140737488355000) (hsz : 0 ≤ sz) :
    Calls Try.prog 12 #[.pointer (some ⟨g, 0, none⟩), .slice A b.length c] w fun e w' => e = .returned (.tuple #[]) ∧ HashAt w' base g t ct (absorb s (xs ++ b)).1 (absorb s (xs ++ b)).2 ((sz + b.length) % 18446744073709551616) ∧ Below base w w' ∧ RestIn w' g (fun k => F k ∨ w.heap.size ≤ k) ∧ KeepF w w' g F := by
  obtain ⟨rv, hh, hq, hgb, hty, htc, hxb⟩ := hH
  obtain ⟨Ar, cr, rfl⟩ := bytes_slice hq
  obtain ⟨m9, m10⟩ := hash11 hh
  have HF := Aside0.mk (fun k => hF _ m9 k)
  clear hF
  have hgf := blk_frozen hh
  have hgl := blk_lt hh
  have HH := Aside0.mk hh
  have HQ := Aside0.mk hq
  have HTY := Aside0.mk hty
  have HTC := Aside0.mk htc
  have HXB := Aside0.mk hxb
  have HC := Aside0.mk hb
  have HBY := Aside0.mk hby
  clear hh hq hty htc hxb hb hby
  go_enter Try.func12, Try.ntmps12
  go_upto_region 2 with (fail)
  obtain ⟨sz', hsz'⟩ : ∃ z, z = IntKind.u64.wrap (sz + (b.length : Int)) := ⟨_, rfl⟩
  rw [← hsz']
  obtain ⟨w1, hw1⟩ : ∃ W, W = w.setCell ⟨g, 10, none⟩ (.int .u64 sz') := ⟨_, rfl⟩
  rw [← hw1]
  have hne := own_ne HQ.out HH.out (by decide)
  have hh1 : w1.heap[g]? = some (.cells #[.int .u32 s.a, .int .u32 s.b, .int .u32 s.c, .int .u32 s.d, .int .u32 s.e, .int .u32 s.f, .int .u32 s.g, .int .u32 s.h, .slice (some ⟨t, 0, none⟩) 64 ct, .slice Ar xs.length cr, .int .u64 sz'] 49 (0, 0)) := by
    rw [hw1]; simpa using blk_set HH.out 10 (.int .u64 sz')
  have hfar1 : ∀ k, k ≠ g → w1.heap[k]? = w.heap[k]? := fun k hk => by rw [hw1]; exact Below.heap_setCell w _ _ k hk
  have hs1 : w1.heap.size = w.heap.size := by rw [hw1]; simp [World.setCell]
  have hq1 := bytes_step HQ.out (fun k hk => hfar1 k (hne k hk))
  have hC1 : Kd.C (Kd.int .u8) w1 A b.length b := by rw [hw1]; exact C_far0 HC.out hbg _
  have hgl1 : g < w1.heap.size := by rw [hs1]; exact hgl
  have hne1 : some g ≠ (Value.slice Ar xs.length cr).ownBlock := fun e => hne g e.symm rfl
  obtain ⟨n9, n10⟩ := hash11 hh1
  have hf1 := blk_frozen hh1
  have HH1 := Aside0.mk hh1
  have HQ1 := Aside0.mk hq1
  have HC1 := Aside0.mk hC1
  have HFAR := Aside0.mk hfar1
  have HSZ := Aside0.mk hsz'
  have HS1 := Aside0.mk hs1
  have HNE := Aside0.mk hne
  have HNE1 := Aside0.mk hne1
  have HW1 := Aside0.mk hw1
  clear hsz' hw1 hh1 hfar1 hq1 hC1 hne hne1 hs1 m9 m10 hgf
  go_wp2_with ((with_reducible refine gate_dst (N := 22) rfl ?_); refine bytes_append_at rfl (.tmp 20) (.tmp 21) rfl c rfl rfl HQ1.out HC1.out (by omega) (by rw [HS1.out]; exact hbase) ?_; intro v' w2 hq2 hg2 hat; have hh2 := (hg2.block g hgl1 HNE1.out).trans HH1.out; obtain ⟨A2, c2, rfl⟩ := bytes_slice hq2; obtain ⟨l9, l10⟩ := hash11 hh2; have hf2 := blk_frozen hh2; have hgl2 := blk_lt hh2; have HH2 := Aside0.mk hh2; have HQ2 := Aside0.mk hq2; have HG2 := Aside0.mk hg2; have HAT := Aside0.mk hat; clear hq2 hg2 hat hh2)
  obtain ⟨w3, hw3⟩ : ∃ W, W = w2.setCell ⟨g, 9, none⟩ (.slice A2 (xs.length + b.length) c2) := ⟨_, rfl⟩
  have hlen2 : (xs ++ b).length = xs.length + b.length := List.length_append
  rw [← hlen2] at hw3
  have hz : w2.setCell ⟨g, 9, none⟩ (.slice A2 (xs.length + b.length) c2) = w3 := by rw [hw3, hlen2]
  rw [hz]
  clear hz
  have hne2 := own_ne HQ2.out HH2.out (by decide)
  obtain ⟨curt, htcur⟩ := HTY.out
  have htg : t ≠ g := blk_types HH.out htcur (by decide)
  have htl : t < w.heap.size := blk_lt htcur
  have htr : some t ≠ (Value.slice Ar xs.length cr).ownBlock := fun e => own_ne HQ.out htcur (by decide) t e.symm rfl
  have hs12 : w1.heap.size ≤ w2.heap.size := HG2.out.size
  have hs1 := HS1.out
  have hht : w3.heap[t]? = w.heap[t]? := by
    rw [hw3, Below.heap_setCell w2 ⟨g, 9, none⟩ _ t htg, HG2.out.block t (by omega) htr, HFAR.out t htg]
  have hH3 : HashAt w3 base g t ct s (xs ++ b) sz' := by
    refine ⟨.slice A2 (xs ++ b).length c2, ?_, bytes_step HQ2.out (fun k hk => ?_), hgb, (table_kept HTY.out HTC.out hht).1, (table_kept HTY.out HTC.out hht).2, fun x hx => ?_⟩
    · rw [hw3]; simpa using blk_set HH2.out 9 (.slice A2 (xs ++ b).length c2)
    · rw [hw3]; exact Below.heap_setCell w2 _ _ k (hne2 k hk)
    · rcases List.mem_append.1 hx with h | h
      · exact HXB.out x h
      · exact HBY.out x h
  have hR3 : RestIn w3 g (fun k => F k ∨ w.heap.size ≤ k) := by
    rw [hw3]
    refine rest_set HH2.out (show 9 < 11 by decide) (fun k hk => ?_)
    rcases HAT.out with h | ⟨b', h, hb'⟩
    · exact .inl (HF.out k (h.symm.trans hk))
    · have e : some b' = some k := h.symm.trans hk
      injection e with e
      exact .inr (by omega)
  have R3 := Aside0.mk hR3
  have hK3 : KeepF w w3 g F := fun k hk hkg hkF => by
    have hkr : some k ≠ (Value.slice Ar xs.length cr).ownBlock := fun e => hkF (HF.out k e.symm)
    rw [hw3, Below.heap_setCell w2 ⟨g, 9, none⟩ _ k hkg, HG2.out.block k (by omega) hkr, HFAR.out k hkg]
  have K3 := Aside0.mk hK3
  have hB3 : Below base w w3 := by
    refine ⟨?_, ?_, ?_, ?_, fun k hk => ?_⟩
    · rw [hw3]; exact HG2.out.os.trans (by rw [HW1.out]; rfl)
    · rw [hw3]; exact HG2.out.tape.trans (by rw [HW1.out]; rfl)
    · rw [hw3]; exact HG2.out.output.trans (by rw [HW1.out]; rfl)
    · rw [hw3]; simp [World.setCell]; omega
    · have hkr : some k ≠ (Value.slice Ar xs.length cr).ownBlock := fun e => by
        have := (q_typed HQ.out k e.symm).1
        omega
      have hkg : k ≠ g := by omega
      rw [hw3, Below.heap_setCell w2 ⟨g, 9, none⟩ _ k hkg, HG2.out.block k (by omega) hkr, HFAR.out k hkg]
  have H3 := Aside0.mk hH3
  have B3 := Aside0.mk hB3
  have HL2 := Aside0.mk hlen2
  clear hw3 hlen2 hne2 htcur htg htl htr hs12 hs1 hht hH3 hB3 l9 l10 hf2 hgl2 n9 n10 hf1 hgl1
  go_loopg [25] ((xs ++ b).length / 64) (fun gg s25 wr => ∃ (s' : St) (ys : List Int), ys.length / 64 ≤ gg ∧ ys.length ≤ 9223372036854775807 ∧ Aside0 (HashAt wr base g t ct s' ys sz') ∧ Aside0 (absorb s' ys = absorb s (xs ++ b)) ∧ Aside0 (Below base w wr) ∧ Aside0 (RestIn wr g (fun k => F k ∨ w.heap.size ≤ k)) ∧ Aside0 (KeepF w wr g F))
  case atStart => exact ⟨s, xs ++ b, Nat.le_refl _, by have := HL2.out; omega, H3, ⟨rfl⟩, B3, R3, K3⟩
  case round =>
    clear H3 B3 R3 K3
    obtain ⟨s', ys, hgg, hym, HA, HAB, HBW, HRI, HKF⟩ := hrel
    obtain ⟨rv, hh, hq, -, hty, htc, hxb⟩ := HA.out
    obtain ⟨A3, c3, rfl⟩ := bytes_slice hq
    obtain ⟨k9, k10⟩ := hash11 hh
    have HRF := Aside0.mk (fun k => HRI.out _ k9 k)
    have hgf := blk_frozen hh
    have hgl := blk_lt hh
    have HH3 := Aside0.mk hh
    have HQ3 := Aside0.mk hq
    have HT3 := Aside0.mk hty
    have HC3 := Aside0.mk htc
    have HX3 := Aside0.mk hxb
    clear hh hq hty htc hxb
    by_cases hy : 64 ≤ ys.length
    · have hyz : (64 : Int) ≤ (ys.length : Int) := by omega
      obtain ⟨r, off, rfl, -, hrb, hrl, hnc, ⟨curr, hrc⟩, hrcell⟩ := bytes_cell HQ3.out (by omega)
      have htk : (ys.take 64).length = 64 := by rw [List.length_take]; omega
      have hcall := block_calls g r off t ct (ys.take 64) (fun i _ => byteL_any (fun x hx => HX3.out x (List.mem_of_mem_take hx)) i) wr (fun i hi => by rw [rd_take ys i 64 hi]; exact hrcell i (by omega)) hrl s' (.slice (some ⟨r, off, none⟩) ys.length c3) sz' HH3.out rootsK HC3.out (by obtain ⟨c, hc⟩ := HT3.out; exact blk_lt hc)
      have hrg : r ≠ g := own_ne HQ3.out HH3.out (by decide) r rfl
      have HCALL := Aside0.mk hcall
      have HRG := Aside0.mk hrg
      have HRC := Aside0.mk hrc
      clear hcall hrg hrc hrcell htk
      have hc64 : (64 : Int) ≤ (c3 : Int) := by omega
      by_cases hc : c3 = 64
      · subst hc
        go_wp2_with (go_at_call 20; refine HCALL.out.mono ?_; rintro e w4 ⟨rfl, hh4, hg4⟩; obtain ⟨j9, j10⟩ := hash11 hh4; have hgf4 := blk_frozen hh4; have hgl4 := blk_lt hh4; have HH4 := Aside0.mk hh4; have HG4 := Aside0.mk hg4; clear hh4 hg4)
        have hqd := bytes_drop (k := 64) HQ3.out rfl hy
        rw [if_pos rfl, show ys.length - 64 = 0 by omega, show 64 - 64 = 0 from rfl] at hqd
        have hend := put_end HH4.out HG4.out hqd hgb HRC.out HRG.out HT3.out HC3.out (fun x hx => HX3.out x (List.mem_of_mem_drop hx)) HBW.out HH3.out
        go_roundg ((ys.drop 64).length / 64)
        case measure => rw [List.length_drop]; omega
        case rel => exact ⟨_, ys.drop 64, Nat.le_refl _, by rw [List.length_drop]; omega, ⟨hend.1⟩, ⟨by rw [← absorb_ge s' ys hy]; exact HAB.out⟩, ⟨hend.2⟩, ⟨rest_set HH4.out (show 9 < 11 by decide) (fun k hk => HRF.out k hk)⟩, ⟨keepF_step HKF.out HG4.out HBW.out.size _⟩⟩
      · have hcq : (c3 == 64) = false := by simp [hc]
        go_wp2_with (go_at_call 20; refine HCALL.out.mono ?_; rintro e w4 ⟨rfl, hh4, hg4⟩; obtain ⟨j9, j10⟩ := hash11 hh4; have hgf4 := blk_frozen hh4; have hgl4 := blk_lt hh4; have HH4 := Aside0.mk hh4; have HG4 := Aside0.mk hg4; clear hh4 hg4)
        have hqd := bytes_drop (k := 64) HQ3.out rfl hy
        rw [if_neg hc] at hqd
        have hend := put_end HH4.out HG4.out hqd hgb HRC.out HRG.out HT3.out HC3.out (fun x hx => HX3.out x (List.mem_of_mem_drop hx)) HBW.out HH3.out
        go_roundg ((ys.drop 64).length / 64)
        case measure => rw [List.length_drop]; omega
        case rel => exact ⟨_, ys.drop 64, Nat.le_refl _, by rw [List.length_drop]; omega, ⟨hend.1⟩, ⟨by rw [← absorb_ge s' ys hy]; exact HAB.out⟩, ⟨hend.2⟩, ⟨rest_set HH4.out (show 9 < 11 by decide) (fun k hk => HRF.out k hk)⟩, ⟨keepF_step HKF.out HG4.out HBW.out.size _⟩⟩
    · have hyz : ¬ (64 : Int) ≤ (ys.length : Int) := by omega
      have hyq : decide ((64 : Int) ≤ (ys.length : Int)) = false := decide_eq_false hyz
      go_wp2
      go_end0
      refine ⟨rfl, ?_, HBW.out, HRI.out, HKF.out⟩
      have h1 := HAB.out
      rw [absorb_lt s' ys hy] at h1
      rw [← h1, ← IntKind.wrap_u64, ← HSZ.out]
      exact HA.out

end Go.Proofs.Ytocnkfepiknglaa.PAll
