/- (*sha.Hash).Put. -/
import Derived.Test.YtocnkfepiknglaaBlk
import Derived.Test.YtocnkfepiknglaaShaJ
import Derived.Test.YtocnkfepiknglaaShaC
import Derived.Shelf.GgClosure.Gives
import Derived.Outline
import Derived.Deep.DeepMust
namespace Go.Proofs.Ytocnkfepiknglaa.PAll
open Go.RowKit Go.Proofs.YtocnkfepiknglaaW.PrintWords Go.Proofs.YtocnkfepiknglaaW.PrintLast Go.Proofs.YtocnkfepiknglaaW.PrintMore
set_option linter.unusedVariables false
set_option linter.unusedSimpArgs false

/-- Blocks of 64 bytes go into the state; what is left. -/
def absorb (s : St) (xs : List Int) : St × List Int :=
  if h : 64 ≤ xs.length then absorb (blk rootsK s (xs.take 64)) (xs.drop 64) else (s, xs)
termination_by xs.length
decreasing_by rw [List.length_drop]; omega

theorem absorb_lt (s : St) (xs : List Int) (h : ¬ 64 ≤ xs.length) : absorb s xs = (s, xs) := by
  rw [absorb, dif_neg h]
theorem absorb_ge (s : St) (xs : List Int) (h : 64 ≤ xs.length) : absorb s xs = absorb (blk rootsK s (xs.take 64)) (xs.drop 64) := by
  rw [absorb, dif_pos h]
theorem absorb_append (ys : List Int) : ∀ (n : Nat) (s : St) (xs : List Int), xs.length = n → absorb (absorb s xs).1 ((absorb s xs).2 ++ ys) = absorb s (xs ++ ys) := by
  intro n
  induction n using Nat.strongRecOn with
  | ind n ih =>
    intro s xs hn
    by_cases h : 64 ≤ xs.length
    · rw [absorb_ge s xs h, absorb_ge s (xs ++ ys) (by rw [List.length_append]; omega), List.take_append_of_le_length h, List.drop_append_of_le_length h]
      exact ih (xs.drop 64).length (by rw [List.length_drop]; omega) _ _ rfl
    · rw [absorb_lt s xs h]

/-- A hash: block g; its table in block t. -/
def HashAt (w : World) (base g t ct : Nat) (s : St) (xs : List Int) (sz : Int) : Prop :=
  ∃ rv, w.heap[g]? = some (.cells #[.int .u32 s.a, .int .u32 s.b, .int .u32 s.c, .int .u32 s.d, .int .u32 s.e, .int .u32 s.f, .int .u32 s.g, .int .u32 s.h, .slice (some ⟨t, 0, none⟩) 64 ct, rv, .int .u64 sz] 49 (0, 0)) ∧
    BytesAt w base rv xs ∧ base ≤ g ∧ (∃ cur, w.heap[t]? = some (.cells cur 43 (0, 0))) ∧ (∀ i, i < 64 → w.cell? ⟨t, i, none⟩ = some (.int .u32 (rd rootsK i))) ∧ ∀ x ∈ xs, 0 ≤ x ∧ x ≤ 255

def ByteL (xs : List Int) : Prop := ∀ x ∈ xs, 0 ≤ x ∧ x ≤ 255
theorem byteL_rd {xs : List Int} (h : ByteL xs) (i : Nat) (hi : i < xs.length) : 0 ≤ rd xs i ∧ rd xs i ≤ 255 := by
  unfold rd
  rw [Int.toNat_natCast, List.getD_eq_getElem?_getD, List.getElem?_eq_getElem hi]
  exact h _ (List.getElem_mem hi)

theorem byteL_any {xs : List Int} (h : ByteL xs) (i : Int) : 0 ≤ rd xs i ∧ rd xs i ≤ 255 := by
  unfold rd
  rw [List.getD_eq_getElem?_getD]
  cases hx : xs[i.toNat]? with
  | none => exact ⟨Int.le_refl _, by decide⟩
  | some x => exact h x (List.mem_of_getElem? hx)

set_option maxHeartbeats 8000000 in
set_option maxRecDepth 100000 in
theorem put_nil (A : Option Addr) (n c : Nat) (w : World) : Calls Try.prog 12 #[.pointer none, .slice A n c] w fun e w' => e = .returned (.tuple #[]) ∧ w' = w := by
  go_enter Try.func12, Try.ntmps12
  go_wp2
  refine bodyPost_ret (results_none rfl _ _ _) rfl ?_
  exact ⟨rfl, rfl⟩

theorem hash11 {w : World} {g t : Nat} {ct : Nat} {s : St} {rv : Value} {sz : Int} (hh : w.heap[g]? = some (.cells #[.int .u32 s.a, .int .u32 s.b, .int .u32 s.c, .int .u32 s.d, .int .u32 s.e, .int .u32 s.f, .int .u32 s.g, .int .u32 s.h, .slice (some ⟨t, 0, none⟩) 64 ct, rv, .int .u64 sz] 49 (0, 0))) :
    w.cell? ⟨g, 9, none⟩ = some rv ∧ w.cell? ⟨g, 10, none⟩ = some (.int .u64 sz) := ⟨(blk_cell hh 9).trans rfl, (blk_cell hh 10).trans rfl⟩
theorem bytes_append_at {ops : Array Oper} {rest : List Oper} {o : Oper} {a : Act} {Q : Exit → Act → World → Prop} (hgd : o.guard = none) (p q : Operand) (ho : o.op = .call { callee := .builtin .append, args := #[p, q], argTypes := #[22, 22] })
    {w : World} {base : Nat} {v : Value} {xs ys : List Int} {A : Option Addr} (c : Nat) (hp : a.eval p = v) (hq : a.eval q = .slice A ys.length c) (h : BytesAt w base v xs) (hC : Kd.C (Kd.int .u8) w A ys.length ys) (hl : xs.length + ys.length ≤ 140737488355328) (hbase : base ≤ w.heap.size)
    (hk : ∀ v' w', BytesAt w' base v' (xs ++ ys) → w.grownBy w' v.ownBlock → (v'.ownBlock = v.ownBlock ∨ ∃ b, v'.ownBlock = some b ∧ w.heap.size ≤ b) → wpList Try.prog ops Q rest (a.put o.dst v') w') : wpList Try.prog ops Q (o :: rest) a w := by
  obtain ⟨v', w', hr, h1, h2, h3⟩ := bytes_append c h hC hl hbase o.type
  refine wpList_plain hgd fun K hK => ?_
  unfold Oper.wp execOp
  simp only [ho, resolve, invoke, builtin, Sem.run_bind, Sem.run_pure, Result.andThen_ok, List.map_toArray, List.map_cons, List.map_nil, hp, hq, hr]
  exact hK _ _ (hk v' w' h1 h2 h3)
theorem C_far {w : World} {A : Option Addr} {n g i : Nat} {ys : List Int} (h : Kd.C (Kd.int .u8) w A n ys) (hg : ∀ a, A = some a → a.block ≠ g) (v : Value) : Kd.C (Kd.int .u8) (w.setCell ⟨g, i, none⟩ v) A n ys := by
  refine ⟨h.1, h.2.1, fun h0 => ?_⟩
  obtain ⟨ad, ha, hc⟩ := h.2.2 h0
  refine ⟨ad, ha, fun j p hp => ?_⟩
  obtain ⟨c, h1, h2, h3⟩ := hc j p hp
  refine ⟨c, h1, h2, fun k u hu => ?_⟩
  have hb : (ad.add (j * (Kd.int .u8).sz + k)).block = ad.block := by unfold Addr.add; split <;> rfl
  rw [← h3 k u hu]
  exact World.cell?_of_block (Below.heap_setCell w ⟨g, i, none⟩ v _ (by rw [hb]; exact hg ad ha))
theorem rd_take (ys : List Int) (i n : Nat) (h : i < n) : rd (ys.take n) i = rd ys i := by
  unfold rd
  rw [Int.toNat_natCast, List.getD_eq_getElem?_getD, List.getD_eq_getElem?_getD, List.getElem?_take_of_lt h]
theorem table_kept {w w' : World} {t : Nat} (hty : ∃ cur, w.heap[t]? = some (.cells cur 43 (0, 0))) (htc : ∀ i, i < 64 → w.cell? ⟨t, i, none⟩ = some (.int .u32 (rd rootsK i))) (h : w'.heap[t]? = w.heap[t]?) :
    (∃ cur, w'.heap[t]? = some (.cells cur 43 (0, 0))) ∧ ∀ i, i < 64 → w'.cell? ⟨t, i, none⟩ = some (.int .u32 (rd rootsK i)) := by
  obtain ⟨cur, hc⟩ := hty
  exact ⟨⟨cur, h.trans hc⟩, fun i hi => (World.cell?_of_block (a := ⟨t, i, none⟩) h).trans (htc i hi)⟩
theorem blk_types {w : World} {g t tg tt : Nat} {c1 c2 : Array Value} (hg : w.heap[g]? = some (.cells c1 tg (0, 0))) (ht : w.heap[t]? = some (.cells c2 tt (0, 0))) (h : tg ≠ tt) : t ≠ g := by
  intro e
  rw [e, hg] at ht
  injection ht with ht
  injection ht with _ ht
  exact h ht
theorem own_ne {w : World} {base g tg : Nat} {v : Value} {xs : List Int} {cur : Array Value} (h : BytesAt w base v xs) (hg : w.heap[g]? = some (.cells cur tg (0, 0))) (ht : tg ≠ 5) : ∀ k, v.ownBlock = some k → k ≠ g := by
  intro k hk e
  obtain ⟨_, c, hc⟩ := q_typed h k hk
  rw [e, hg] at hc
  injection hc with hc
  injection hc with _ hc
  exact ht hc

/-- Behind a block: what is left goes on. -/
theorem put_end {w0 wr w4 : World} {base g t ct r : Nat} {s2 : St} {v : Value} {rv : Value} {xs : List Int} {sz : Int} {cur c0 : Array Value}
    (hh4 : w4.heap[g]? = some (.cells #[.int .u32 s2.a, .int .u32 s2.b, .int .u32 s2.c, .int .u32 s2.d, .int .u32 s2.e, .int .u32 s2.f, .int .u32 s2.g, .int .u32 s2.h, .slice (some ⟨t, 0, none⟩) 64 ct, rv, .int .u64 sz] 49 (0, 0))) (hg4 : wr.grownBy w4 (some g))
    (hq : BytesAt wr base v xs) (hgb : base ≤ g) (hr : wr.heap[r]? = some (.cells cur 5 (0, 0))) (hrg : r ≠ g) (hty : ∃ cur, wr.heap[t]? = some (.cells cur 43 (0, 0))) (htc : ∀ i, i < 64 → wr.cell? ⟨t, i, none⟩ = some (.int .u32 (rd rootsK i))) (hx : ByteL xs) (hb : Below base w0 wr) (hhr : wr.heap[g]? = some (.cells c0 49 (0, 0))) :
    HashAt (w4.setCell ⟨g, 9, none⟩ v) base g t ct s2 xs sz ∧ Below base w0 (w4.setCell ⟨g, 9, none⟩ v) := by
  obtain ⟨curt, hcurt⟩ := hty
  have htg : t ≠ g := blk_types hhr hcurt (by decide)
  have hgl := blk_lt hhr
  have hkeep : ∀ k, k < wr.heap.size → k ≠ g → (w4.setCell ⟨g, 9, none⟩ v).heap[k]? = wr.heap[k]? := fun k hk hkg => by
    rw [Below.heap_setCell w4 ⟨g, 9, none⟩ v k hkg]
    exact hg4.block k hk (fun e => hkg (by injection e))
  have hne := own_ne hq hhr (by decide)
  refine ⟨⟨v, ?_, bytes_step hq (fun k hk => hkeep k (q_lt hq k hk) (hne k hk)), hgb, (table_kept ⟨curt, hcurt⟩ htc (hkeep t (blk_lt hcurt) htg)).1, (table_kept ⟨curt, hcurt⟩ htc (hkeep t (blk_lt hcurt) htg)).2, hx⟩, ?_⟩
  · simpa using blk_set hh4 9 v
  · refine ⟨hg4.os.trans hb.os, hg4.tape.trans hb.tape, hg4.output.trans hb.output, ?_, fun k hk => ?_⟩
    · have h1 := hb.size
      have h2 := hg4.size
      simp [World.setCell]
      omega
    · have h1 := hb.size
      rcases Nat.lt_or_ge k wr.heap.size with h | h
      · exact (hkeep k h (by omega)).trans (hb.block k hk)
      · omega

set_option maxHeartbeats 8000000 in
set_option maxRecDepth 100000 in
theorem put_calls (base g t ct : Nat) (s : St) (xs b : List Int) (sz : Int) (A : Option Addr) (c : Nat) (w : World) (hH : HashAt w base g t ct s xs sz) (hbase : base ≤ w.heap.size) (hx : xs.length < 64) (hb : Kd.C (Kd.int .u8) w A b.length b) (hbg : ∀ a, A = some a → a.block ≠ g) (hby : ByteL b) (hbl : b.length ≤ 140737488355000) (hsz : 0 ≤ sz) :
    Calls Try.prog 12 #[.pointer (some ⟨g, 0, none⟩), .slice A b.length c] w fun e w' => e = .returned (.tuple #[]) ∧ HashAt w' base g t ct (absorb s (xs ++ b)).1 (absorb s (xs ++ b)).2 ((sz + b.length) % 18446744073709551616) ∧ Below base w w' := by
  obtain ⟨rv, hh, hq, hgb, hty, htc, hxb⟩ := hH
  obtain ⟨Ar, cr, rfl⟩ := bytes_slice hq
  obtain ⟨m9, m10⟩ := hash11 hh
  have hgf := blk_frozen hh
  have hgl := blk_lt hh
  have HH := Aside0.mk hh
  have HQ := Aside0.mk hq
  have HTY := Aside0.mk hty
  have HTC := Aside0.mk htc
  have HXB := Aside0.mk hxb
  have HC := Aside0.mk hb
  have HBY := Aside0.mk hby
  clear hh hq hty htc hxb hb hby
  go_enter Try.func12, Try.ntmps12
  go_upto_region 2 with (fail)
  obtain ⟨sz', hsz'⟩ : ∃ z, z = IntKind.u64.wrap (sz + (b.length : Int)) := ⟨_, rfl⟩
  rw [← hsz']
  obtain ⟨w1, hw1⟩ : ∃ W, W = w.setCell ⟨g, 10, none⟩ (.int .u64 sz') := ⟨_, rfl⟩
  rw [← hw1]
  have hne := own_ne HQ.out HH.out (by decide)
  have hh1 : w1.heap[g]? = some (.cells #[.int .u32 s.a, .int .u32 s.b, .int .u32 s.c, .int .u32 s.d, .int .u32 s.e, .int .u32 s.f, .int .u32 s.g, .int .u32 s.h, .slice (some ⟨t, 0, none⟩) 64 ct, .slice Ar xs.length cr, .int .u64 sz'] 49 (0, 0)) := by
    rw [hw1]; simpa using blk_set HH.out 10 (.int .u64 sz')
  have hfar1 : ∀ k, k ≠ g → w1.heap[k]? = w.heap[k]? := fun k hk => by rw [hw1]; exact Below.heap_setCell w _ _ k hk
  have hs1 : w1.heap.size = w.heap.size := by rw [hw1]; simp [World.setCell]
  have hq1 := bytes_step HQ.out (fun k hk => hfar1 k (hne k hk))
  have hC1 : Kd.C (Kd.int .u8) w1 A b.length b := by rw [hw1]; exact C_far HC.out hbg _
  have hgl1 : g < w1.heap.size := by rw [hs1]; exact hgl
  have hne1 : some g ≠ (Value.slice Ar xs.length cr).ownBlock := fun e => hne g e.symm rfl
  obtain ⟨n9, n10⟩ := hash11 hh1
  have hf1 := blk_frozen hh1
  have HH1 := Aside0.mk hh1
  have HQ1 := Aside0.mk hq1
  have HC1 := Aside0.mk hC1
  have HFAR := Aside0.mk hfar1
  have HSZ := Aside0.mk hsz'
  have HS1 := Aside0.mk hs1
  have HNE := Aside0.mk hne
  have HNE1 := Aside0.mk hne1
  have HW1 := Aside0.mk hw1
  clear hsz' hw1 hh1 hfar1 hq1 hC1 hne hne1 hs1 m9 m10 hgf
  go_wp2_with ((with_reducible refine gate_dst (N := 22) rfl ?_); refine bytes_append_at rfl (.tmp 20) (.tmp 21) rfl c rfl rfl HQ1.out HC1.out (by omega) (by rw [HS1.out]; exact hbase) ?_; intro v' w2 hq2 hg2 hat; have hh2 := (hg2.block g hgl1 HNE1.out).trans HH1.out; obtain ⟨A2, c2, rfl⟩ := bytes_slice hq2; obtain ⟨l9, l10⟩ := hash11 hh2; have hf2 := blk_frozen hh2; have hgl2 := blk_lt hh2; have HH2 := Aside0.mk hh2; have HQ2 := Aside0.mk hq2; have HG2 := Aside0.mk hg2; have HAT := Aside0.mk hat; clear hq2 hg2 hat hh2)
  obtain ⟨w3, hw3⟩ : ∃ W, W = w2.setCell ⟨g, 9, none⟩ (.slice A2 (xs.length + b.length) c2) := ⟨_, rfl⟩
  have hlen2 : (xs ++ b).length = xs.length + b.length := List.length_append
  rw [← hlen2] at hw3
  have hz : w2.setCell ⟨g, 9, none⟩ (.slice A2 (xs.length + b.length) c2) = w3 := by rw [hw3, hlen2]
  rw [hz]
  clear hz
  have hne2 := own_ne HQ2.out HH2.out (by decide)
  obtain ⟨curt, htcur⟩ := HTY.out
  have htg : t ≠ g := blk_types HH.out htcur (by decide)
  have htl : t < w.heap.size := blk_lt htcur
  have htr : some t ≠ (Value.slice Ar xs.length cr).ownBlock := fun e => own_ne HQ.out htcur (by decide) t e.symm rfl
  have hs12 : w1.heap.size ≤ w2.heap.size := HG2.out.size
  have hs1 := HS1.out
  have hht : w3.heap[t]? = w.heap[t]? := by
    rw [hw3, Below.heap_setCell w2 ⟨g, 9, none⟩ _ t htg, HG2.out.block t (by omega) htr, HFAR.out t htg]
  have hH3 : HashAt w3 base g t ct s (xs ++ b) sz' := by
    refine ⟨.slice A2 (xs ++ b).length c2, ?_, bytes_step HQ2.out (fun k hk => ?_), hgb, (table_kept HTY.out HTC.out hht).1, (table_kept HTY.out HTC.out hht).2, fun x hx => ?_⟩
    · rw [hw3]; simpa using blk_set HH2.out 9 (.slice A2 (xs ++ b).length c2)
    · rw [hw3]; exact Below.heap_setCell w2 _ _ k (hne2 k hk)
    · rcases List.mem_append.1 hx with h | h
      · exact HXB.out x h
      · exact HBY.out x h
  have hB3 : Below base w w3 := by
    refine ⟨?_, ?_, ?_, ?_, fun k hk => ?_⟩
    · rw [hw3]; exact HG2.out.os.trans (by rw [HW1.out]; rfl)
    · rw [hw3]; exact HG2.out.tape.trans (by rw [HW1.out]; rfl)
    · rw [hw3]; exact HG2.out.output.trans (by rw [HW1.out]; rfl)
    · rw [hw3]; simp [World.setCell]; omega
    · have hkr : some k ≠ (Value.slice Ar xs.length cr).ownBlock := fun e => by
        have := (q_typed HQ.out k e.symm).1
        omega
      have hkg : k ≠ g := by omega
      rw [hw3, Below.heap_setCell w2 ⟨g, 9, none⟩ _ k hkg, HG2.out.block k (by omega) hkr, HFAR.out k hkg]
  have H3 := Aside0.mk hH3
  have B3 := Aside0.mk hB3
  have HL2 := Aside0.mk hlen2
  clear hw3 hlen2 hne2 htcur htg htl htr hs12 hs1 hht hH3 hB3 l9 l10 hf2 hgl2 n9 n10 hf1 hgl1
  go_loopg [25] ((xs ++ b).length / 64) (fun gg s25 wr => ∃ (s' : St) (ys : List Int), ys.length / 64 ≤ gg ∧ ys.length ≤ 9223372036854775807 ∧ Aside0 (HashAt wr base g t ct s' ys sz') ∧ Aside0 (absorb s' ys = absorb s (xs ++ b)) ∧ Aside0 (Below base w wr))
  case atStart => exact ⟨s, xs ++ b, Nat.le_refl _, by have := HL2.out; omega, H3, ⟨rfl⟩, B3⟩
  case round =>
    clear H3 B3
    obtain ⟨s', ys, hgg, hym, HA, HAB, HBW⟩ := hrel
    obtain ⟨rv, hh, hq, -, hty, htc, hxb⟩ := HA.out
    obtain ⟨A3, c3, rfl⟩ := bytes_slice hq
    obtain ⟨k9, k10⟩ := hash11 hh
    have hgf := blk_frozen hh
    have hgl := blk_lt hh
    have HH3 := Aside0.mk hh
    have HQ3 := Aside0.mk hq
    have HT3 := Aside0.mk hty
    have HC3 := Aside0.mk htc
    have HX3 := Aside0.mk hxb
    clear hh hq hty htc hxb
    by_cases hy : 64 ≤ ys.length
    · have hyz : (64 : Int) ≤ (ys.length : Int) := by omega
      obtain ⟨r, off, rfl, -, hrb, hrl, hnc, ⟨curr, hrc⟩, hrcell⟩ := bytes_cell HQ3.out (by omega)
      have htk : (ys.take 64).length = 64 := by rw [List.length_take]; omega
      have hcall := block_calls g r off t ct (ys.take 64) (fun i _ => byteL_any (fun x hx => HX3.out x (List.mem_of_mem_take hx)) i) wr (fun i hi => by rw [rd_take ys i 64 hi]; exact hrcell i (by omega)) hrl s' (.slice (some ⟨r, off, none⟩) ys.length c3) sz' HH3.out rootsK HC3.out (by obtain ⟨c, hc⟩ := HT3.out; exact blk_lt hc)
      have hrg : r ≠ g := own_ne HQ3.out HH3.out (by decide) r rfl
      have HCALL := Aside0.mk hcall
      have HRG := Aside0.mk hrg
      have HRC := Aside0.mk hrc
      clear hcall hrg hrc hrcell htk
      have hc64 : (64 : Int) ≤ (c3 : Int) := by omega
      by_cases hc : c3 = 64
      · subst hc
        go_wp2_with (go_at_call 20; refine HCALL.out.mono ?_; rintro e w4 ⟨rfl, hh4, hg4⟩; obtain ⟨j9, j10⟩ := hash11 hh4; have hgf4 := blk_frozen hh4; have hgl4 := blk_lt hh4; have HH4 := Aside0.mk hh4; have HG4 := Aside0.mk hg4; clear hh4 hg4)
        have hqd := bytes_drop (k := 64) HQ3.out rfl hy
        rw [if_pos rfl, show ys.length - 64 = 0 by omega, show 64 - 64 = 0 from rfl] at hqd
        have hend := put_end HH4.out HG4.out hqd hgb HRC.out HRG.out HT3.out HC3.out (fun x hx => HX3.out x (List.mem_of_mem_drop hx)) HBW.out HH3.out
        go_roundg ((ys.drop 64).length / 64)
        case measure => rw [List.length_drop]; omega
        case rel => exact ⟨_, ys.drop 64, Nat.le_refl _, by rw [List.length_drop]; omega, ⟨hend.1⟩, ⟨by rw [← absorb_ge s' ys hy]; exact HAB.out⟩, ⟨hend.2⟩⟩
      · have hcq : (c3 == 64) = false := by simp [hc]
        go_wp2_with (go_at_call 20; refine HCALL.out.mono ?_; rintro e w4 ⟨rfl, hh4, hg4⟩; obtain ⟨j9, j10⟩ := hash11 hh4; have hgf4 := blk_frozen hh4; have hgl4 := blk_lt hh4; have HH4 := Aside0.mk hh4; have HG4 := Aside0.mk hg4; clear hh4 hg4)
        have hqd := bytes_drop (k := 64) HQ3.out rfl hy
        rw [if_neg hc] at hqd
        have hend := put_end HH4.out HG4.out hqd hgb HRC.out HRG.out HT3.out HC3.out (fun x hx => HX3.out x (List.mem_of_mem_drop hx)) HBW.out HH3.out
        go_roundg ((ys.drop 64).length / 64)
        case measure => rw [List.length_drop]; omega
        case rel => exact ⟨_, ys.drop 64, Nat.le_refl _, by rw [List.length_drop]; omega, ⟨hend.1⟩, ⟨by rw [← absorb_ge s' ys hy]; exact HAB.out⟩, ⟨hend.2⟩⟩
    · have hyz : ¬ (64 : Int) ≤ (ys.length : Int) := by omega
      have hyq : decide ((64 : Int) ≤ (ys.length : Int)) = false := decide_eq_false hyz
      go_wp2
      go_end0
      refine ⟨rfl, ?_, HBW.out⟩
      have h1 := HAB.out
      rw [absorb_lt s' ys hy] at h1
      rw [← h1, ← IntKind.wrap_u64, ← HSZ.out]
      exact HA.out

end Go.Proofs.Ytocnkfepiknglaa.PAll
