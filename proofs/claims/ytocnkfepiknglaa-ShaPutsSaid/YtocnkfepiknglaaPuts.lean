/- The walk of latchkeylaw03.ShaPuts. -/
import Derived.Test.YtocnkfepiknglaaRefM
import Derived.Test.YtocnkfepiknglaaLong
import Derived.Test.YtocnkfepiknglaaPut2
namespace Go.Proofs.Ytocnkfepiknglaa.PAll
open Go.RowKit Go.Proofs.YtocnkfepiknglaaW.PrintWords Go.Proofs.YtocnkfepiknglaaW.PrintLast Go.Proofs.YtocnkfepiknglaaW.PrintMore
set_option linter.unusedVariables false
set_option linter.unusedSimpArgs false

theorem rest_lt {w : World} {base g : Nat} {all : List Int} (h : HashIn w base g all) : RestIn w g (fun k => k < w.heap.size) := by
  obtain ⟨_, _, t, ct, rv, hh, hq, _⟩ := h
  intro rv' hr k hk
  rw [(hash11 hh).1] at hr
  injection hr with hr
  subst hr
  exact q_lt hq k hk
theorem put_F {w : World} {base g : Nat} {all b : List Int} {A : Option Addr} (c : Nat) (F : Nat → Prop) (h : HashIn w base g all) (hF : RestIn w g F) (hb : Kd.C (Kd.int .u8) w A b.length b) (hbg : 0 < b.length → ∀ a, A = some a → a.block ≠ g) (hby : ByteL b) (hl : all.length + b.length ≤ 100000000) :
    Calls Try.prog 12 #[.pointer (some ⟨g, 0, none⟩), .slice A b.length c] w fun e w' => e = .returned (.tuple #[]) ∧ HashIn w' base g (all ++ b) ∧ Below base w w' ∧ RestIn w' g (fun k => F k ∨ w.heap.size ≤ k) ∧ KeepF w w' g F := by
  obtain ⟨h1, h2, t, ct, hh⟩ := h
  refine (put_callsF F base g t ct _ _ b _ A c w hh h2 (absorb_rest _ _ _ rfl) hb hbg hF hby (by omega) (by omega)).mono ?_
  rintro e w' ⟨rfl, hh', hb', hr, hk⟩
  refine ⟨rfl, ⟨by rw [List.length_append]; exact hl, Nat.le_trans h2 hb'.size, t, ct, ?_⟩, hb', hr, hk⟩
  rw [absorb_append b _ stH all rfl] at hh'
  have e : ((all.length : Int) + (b.length : Int)) % 18446744073709551616 = ((all ++ b).length : Int) := by rw [List.length_append]; push_cast; omega
  rw [e] at hh'
  exact hh'
theorem rest_step {w w' : World} {g : Nat} {F : Nat → Prop} (h : RestIn w g F) (hg : g < w.heap.size) (hb : Below w.heap.size w w') : RestIn w' g F := fun rv hr k hk => h rv ((hb.cell (p := ⟨g, 9, none⟩) hg).symm.trans hr) k hk
/-- Where only blocks of P are written, none of which is the hash's, the hash is as it was. -/
theorem hash_keep {w w' : World} {base g : Nat} {all : List Int} {F : Nat → Prop} (P : Nat → Prop) (h : HashIn w base g all) (hF : RestIn w g F) (hs : w.heap.size ≤ w'.heap.size) (hk : ∀ k, k < w.heap.size → ¬ P k → w'.heap[k]? = w.heap[k]?) (hg : ¬ P g) (hPF : ∀ k, F k → ¬ P k) (hPt : ∀ k cur, w.heap[k]? = some (.cells cur 43 (0, 0)) → ¬ P k) :
    HashIn w' base g all ∧ RestIn w' g F := by
  obtain ⟨h1, h2, t, ct, rv, hh, hq, hgb, ⟨cur, hcur⟩, htc, hx⟩ := h
  have ht := hk t (blk_lt hcur) (hPt t cur hcur)
  have hg' := hk g (blk_lt hh) hg
  have hr0 := hF rv (hash11 hh).1
  refine ⟨⟨h1, by omega, t, ct, rv, hg'.trans hh, bytes_step hq (fun k hk' => hk k (q_lt hq k hk') (hPF k (hr0 k hk'))), hgb, (table_kept ⟨cur, hcur⟩ htc ht).1, (table_kept ⟨cur, hcur⟩ htc ht).2, hx⟩, fun rv' hr k hk' => ?_⟩
  rw [World.cell?_of_block (a := ⟨g, 9, none⟩) hg'] at hr
  exact hF rv' hr k hk'

/-- What the loop holds goes on where nothing that lay is turned. -/
theorem puts_step {w6 wz w1 : World} {g : Nat} {al : List Int} {v : Value} {F : Nat → Prop} (h1 : ByteL al) (h2 : al.length ≤ 5000) (h3 : BytesAt w6 w1.heap.size v al) (h4 : HashIn w6 w1.heap.size g al) (h5 : RestIn w6 g F) (h6 : ∀ k, F k → k < w6.heap.size) (h7 : ∀ k, v.ownBlock = some k → ¬ F k ∧ k ≠ g) (h8 : Below w1.heap.size w1 w6) (hz : Below w6.heap.size w6 wz) :
    ByteL al ∧ BytesAt wz w1.heap.size v al ∧ HashIn wz w1.heap.size g al ∧ RestIn wz g F ∧ (∀ k, F k → k < wz.heap.size) ∧ (∀ k, v.ownBlock = some k → ¬ F k ∧ k ≠ g) ∧ Below w1.heap.size w1 wz :=
  ⟨h1, bytes_step h3 (fun k hk => hz.block k (q_lt h3 k hk)), h4.step hz, rest_step h5 h4.lt hz, fun k hk => Nat.lt_of_lt_of_le (h6 k hk) hz.size, h7, h8.trans (hz.mono h8.size)⟩

set_option maxHeartbeats 8000000 in
set_option maxRecDepth 100000 in
theorem shaPuts_walk (oa : Option Addr) (n c : Nat) (w : World) (hrow : ∀ r, r < n → ∃ a Ar Cr br, oa = some a ∧ a.block < w.heap.size ∧ w.cell? (a.add r) = some (.slice Ar (br : List Int).length Cr) ∧ Kd.C (Kd.int .u8) w Ar br.length br ∧ ByteL br ∧ br.length ≤ 140737488355328) (hn : n ≤ 140737488355328) :
    Calls Try.prog 4 #[.slice oa n c] w fun e w' => e = .returned (.bool true) ∧ Below w.heap.size w w' := by
  have HR := Aside0.mk hrow
  clear hrow
  go_enter Try.func4, Try.ntmps4
  go_upto_region 3 with (first | (go_at_call 8; (with_reducible refine (awake_calls _).mono ?_); rintro e w1 ⟨rfl, hb1⟩; have HB1 := Aside0.mk hb1; clear hb1))
  go_upto_region 6 with (first | (go_at_call 11; (with_reducible refine (new_in _).mono ?_); rintro e w2 ⟨g, rfl, hi2, hb2⟩; have HI2 := Aside0.mk hi2; have HB2 := Aside0.mk hb2; clear hb2 hi2))
  have hbn := bytes_nil w2 w1.heap.size
  have HBN := Aside0.mk hbn
  have HRL := Aside0.mk (rest_lt HI2.out)
  clear hbn
  go_loopg [4, 14] n (fun gg s4 s14 wq => ∃ (i : Nat) (al : List Int) (F : Nat → Prop), i ≤ n ∧ n - i ≤ gg ∧ s14 = .int .i64 i ∧ al.length ≤ 5000 ∧ Aside0 (ByteL al) ∧ Aside0 (BytesAt wq w1.heap.size s4 al) ∧ Aside0 (HashIn wq w1.heap.size g al) ∧ Aside0 (RestIn wq g F) ∧ Aside0 (∀ k, F k → k < wq.heap.size) ∧ Aside0 (∀ k, s4.ownBlock = some k → ¬ F k ∧ k ≠ g) ∧ Aside0 (Below w1.heap.size w1 wq))
  case atStart => exact ⟨0, [], fun k => k < w2.heap.size, by omega, by omega, rfl, by decide, ⟨fun x hx => by simp at hx⟩, HBN, HI2, HRL, ⟨fun k hk => hk⟩, ⟨fun k hk => by simp [Value.ownBlock] at hk⟩, HB2⟩
  case round =>
    clear HI2 HB2 HBN HRL
    obtain ⟨i, al, F, hi, hgg, rfl, hal, HAL, HBA, HI, HRF, HFL, HOF, HBQ⟩ := hrel
    obtain ⟨wo, hwo⟩ : ∃ wo, wo = wr := ⟨_, rfl⟩
    subst hwo
    by_cases hlt : i < n
    · have hiz : (i : Int) < (n : Int) := by omega
      have HM := Aside0.mk (show n - (i + 1) < gk by omega)
      obtain ⟨a, Ai, Ci, bi, hoa, hab, hr1, hr2, hr3, hr4⟩ := HR.out i hlt
      subst hoa
      have hs1 := HB1.out.size
      have hadd : (a.add i).block = a.block := by unfold Addr.add; split <;> rfl
      have hac := (HBQ.out.cell (p := a.add i) (by rw [hadd]; omega)).trans ((HB1.out.cell (p := a.add i) (by rw [hadd]; exact hab)).trans hr1)
      obtain ⟨A4, c4, rfl⟩ := bytes_slice HBA.out
      have HCA := Aside0.mk (Kd.C_below hr2 HB1.out)
      have HCB := Aside0.mk (Kd.C_below HCA.out HBQ.out)
      have HBY := Aside0.mk hr3
      have HLT := Aside0.mk hlt
      clear hr1 hr2 hr3 hlt hgg hi
      go_upto_region 8 with (fail)
      by_cases h40 : 40 < i
      · have h40z : decide ((40 : Int) < (i : Int)) = true := decide_eq_true (by omega)
        have h40y : (40 : Int) < (i : Int) := by omega
        go_wp2
        go_ret
        exact ⟨rfl, HB1.out.trans (HBQ.out.mono hs1)⟩
      · have h40z : decide ((40 : Int) < (i : Int)) = false := decide_eq_false (by omega)
        have h40y : ¬ (40 : Int) < (i : Int) := by omega
        by_cases h5 : 5000 < al.length + bi.length
        · have h5z : decide ((5000 : Int) < (al.length : Int) + (bi.length : Int)) = true := decide_eq_true (by omega)
          have h5y : (5000 : Int) < (al.length : Int) + (bi.length : Int) := by omega
          go_wp2
          go_ret
          exact ⟨rfl, HB1.out.trans (HBQ.out.mono hs1)⟩
        · have h5z : decide ((5000 : Int) < (al.length : Int) + (bi.length : Int)) = false := decide_eq_false (by omega)
          have h5y : ¬ (5000 : Int) < (al.length : Int) + (bi.length : Int) := by omega
          have h5x : al.length + bi.length ≤ 5000 := by omega
          go_upto_region 12 with (first | ((with_reducible refine gate_dst (N := 29) rfl ?_); refine Kd.R_lit (Kd.int .u8) _ 5 ?hg (N := 29) ?hd (xs := ([] : List Int)) (inner := []) (ok := fun _ => True) (okp := fun _ => True) ?hr ?hp (fun _ hk => hk) trivial (Below.refl _ _) (Nat.le_refl _) (by simp) ?_; (case hd => rfl); (case hg => rfl); (case hr => first | (go_simp; done) | (go_simp; rfl)); (case hp => exact (Reps.none _ _)); intro v3 w3 ho hb hg_ hnew_; clear hg_ hnew_; have HO3 := Aside0.mk ho; have HB3 := Aside0.mk hb; clear ho hb) | ((with_reducible refine gate_builtin (b := .append) (xs := #[.tmp 29, .tmp 30]) rfl ?_); at_builtin; refine Kd.R_append_rows (Kd.int .u8) (w0 := wo) wo.heap.size rfl (.tmp 29) (.tmp 30) 22 5 (.int .u8 0) 1 rfl Try.underlying22 infoB rfl (by decide) (by omega) v3 ([] : List Int) bi _ _ _ (fun _ => True) (fun _ => False) rfl rfl HO3.out ?aR (fun _ _ h => h) (fun _ h => h.elim) (fun _ _ => trivial) HB3.out HB3.out.size ?aL ?_; (case aR => exact (Kd.C_below HCB.out HB3.out)); (case aL => simp; omega); intro v4 w4 ho hb hg hat; rw [List.nil_append] at ho; obtain ⟨A7, c7, rfl, hlc, hC7⟩ := Kd.R_reads ho; have hk7 := Kd.R_base ho; have hb7 := (fun k hk => ((Kd.R_bound ho).1 k hk).2.2.1); have HO4 := Aside0.mk ho; have HC7 := Aside0.mk hC7; have HK7 := Aside0.mk hk7; have HL7 := Aside0.mk hb7; have HB4 := Aside0.mk hb; clear ho hb hg hat hC7 hk7 hb7; have hg7 := HI.out.lt; have HP := Aside0.mk (put_F c7 F (HI.out.step HB4.out) (rest_step HRF.out hg7 HB4.out) HC7.out (fun _ x hx => by have := HK7.out x.block (by rw [hx]; rfl); omega) HBY.out (by omega))) | (go_at_call 12; refine HP.out.mono ?_; rintro e w5 ⟨rfl, hi5, hb5, hr5, hk5⟩; have HI5 := Aside0.mk hi5; have HB5 := Aside0.mk hb5; have HR5 := Aside0.mk hr5; have HK5 := Aside0.mk hk5; clear hi5 hb5 hr5 hk5))
          have hs4 := HB4.out.size
          have hs5 := HB5.out.size
          have h7g : ∀ k, (Value.slice A7 bi.length c7).ownBlock = some k → k ≠ g ∧ ¬ F k ∧ k < w4.heap.size ∧ wo.heap.size ≤ k := fun k hk => by
            have h1 := HK7.out k hk
            have h2 := HL7.out k hk
            exact ⟨by omega, fun hf => by have := HFL.out k hf; omega, h2, h1⟩
          have hx5 : Kd.R (Kd.int .u8) 5 w5 wo.heap.size (fun k => (Value.slice A7 bi.length c7).ownBlock = some k) (.slice A7 bi.length c7) bi :=
            Kd.R_step (ok := fun k => (Value.slice A7 bi.length c7).ownBlock = some k) ⟨fun k hk => hk, HO4.out.2⟩ (fun k ho hk => HK5.out k hk (h7g k ho).1 (h7g k ho).2.1)
          have H7T := Aside0.mk (Kd.R_typed hx5)
          have HX5 := Aside0.mk hx5
          have H7G := Aside0.mk h7g
          have HG5 := Aside0.mk (World.grownBy.refl w5 (Value.slice A7 bi.length c7).ownBlock)
          clear hx5 h7g HP
          obtain ⟨m, hm⟩ : ∃ m, m = bi.length := ⟨_, rfl⟩
          have HMB := Aside0.mk hm
          go_upto_region 13 with (fail)
          go_loopg [37] m (fun gg s37 wq => ∃ (k : Nat) (ys : List Int), k ≤ m ∧ m - k ≤ gg ∧ s37 = .int .i64 k ∧ ys.length = m ∧ Aside0 (Kd.R (Kd.int .u8) 5 wq wo.heap.size (fun k => (Value.slice A7 bi.length c7).ownBlock = some k) (.slice A7 bi.length c7) ys) ∧ Aside0 (w5.grownBy wq (Value.slice A7 bi.length c7).ownBlock))
          case atStart => exact ⟨0, bi, by omega, by omega, rfl, hm.symm, HX5, HG5⟩
          case round =>
            clear HX5 HG5
            obtain ⟨k, ys, hk, hgk, rfl, hyl, HX, HG⟩ := hrel
            by_cases hkm : k < m
            · have hkz : (k : Int) < (bi.length : Int) := by omega
              obtain ⟨g7, c', he, h1, h2, cells, h3⟩ := Kd.R_form HX.out (by omega)
              injection he with he1 he2 he3
              subst he1 he3
              obtain ⟨hc1, hc2⟩ := Kd.R_celln (0 : Int) HX.out (k : Int) (by omega) (by omega)
              rw [Int.toNat_natCast] at hc1 hc2
              have HN := Aside0.mk (show m - (k + 1) < gk by omega)
              have HYL := Aside0.mk hyl
              have HKM := Aside0.mk hkm
              clear hyl he2 h3 hgk hk hkm hm
              go_wp2
              go_roundg (m - (k + 1))
              case measure => exact HN.out
              case rel =>
                have hp := (Kd.R_putg HX.out (k : Int) (Go.bits .xor .u8 (rdOf 0 ys (k : Int)) 255)).1
                rw [Int.toNat_natCast] at hp
                exact ⟨k + 1, _, HKM.out, Nat.le_refl _, by push_cast; rfl, by rw [List.length_set]; exact HYL.out, ⟨hp⟩, ⟨grown_set1 HG.out _⟩⟩
            · have hkm' : ¬ (k : Int) < (bi.length : Int) := by omega
              have hgs := HG.out.size
              have hke := hash_keep (w' := wr) (fun k => (Value.slice A7 bi.length c7).ownBlock = some k) HI5.out HR5.out hgs (fun k hk hp => HG.out.block k hk (fun e => hp e.symm)) (fun hp => ((H7G.out g hp).1 rfl)) (fun k hG hp => by
                  have h := H7G.out k hp
                  rcases hG with h' | h'
                  · exact h.2.1 h'
                  · omega) (fun k cur hc hp => by
                  obtain ⟨cs, hcs⟩ := H7T.out k hp
                  exact blk_ne hcs hc (by decide) rfl)
              have hg4 : g < wo.heap.size := HI.out.lt
              have hba5 : BytesAt wr w1.heap.size (.slice A4 al.length c4) al := bytes_step HBA.out (fun k hk => by
                have hlt := q_lt HBA.out k hk
                have ho := HOF.out k hk
                rw [HG.out.block k (by omega) (fun e => by have := H7G.out k e.symm; omega), HK5.out k (by omega) ho.2 ho.1, HB4.out.block k hlt])
              have hsq := HBQ.out.size
              have hb5r : Below w1.heap.size w5 wr := ⟨HG.out.os, HG.out.tape, HG.out.output, hgs, fun k hk => HG.out.block k (by have : k < w1.heap.size := hk; omega) (fun e => by have := H7G.out k e.symm; have : k < w1.heap.size := hk; omega)⟩
              have hb1r : Below w1.heap.size w1 wr := (HBQ.out.trans (HB4.out.mono hsq)).trans (HB5.out.trans hb5r)
              have hcb5 : Kd.C (Kd.int .u8) wr Ai bi.length bi := Kd.C_below HCA.out hb1r
              have HB1R := Aside0.mk hb1r
              have HI6 := Aside0.mk hke.1
              have HR6 := Aside0.mk hke.2
              have HBA6 := Aside0.mk hba5
              have HCB6 := Aside0.mk hcb5
              clear hke hba5 hcb5 hk hgk hkm hm hyl hb5r hb1r
              go_upto_region 18 with (first | ((with_reducible refine gate_dst (N := 49) rfl ?_); refine bytes_append_at rfl (.tmp 47) (.tmp 48) rfl Ci rfl rfl HBA6.out HCB6.out (by omega) (by have := HI6.out.2.1; exact this) ?_; intro v6 w6 hq6 hg6 hat; have HBA7 := Aside0.mk hq6; have HG6 := Aside0.mk hg6; have HAT := Aside0.mk hat; clear hq6 hg6 hat))
              have hs6 := HG6.out.size
              have h4g : ∀ k, (Value.slice A4 al.length c4).ownBlock = some k → k ≠ g ∧ ¬ F k ∧ k < wo.heap.size := fun k hk => ⟨(HOF.out k hk).2, (HOF.out k hk).1, q_lt HBA.out k hk⟩
              have hke := hash_keep (w' := w6) (fun k => (Value.slice A4 al.length c4).ownBlock = some k) HI6.out HR6.out hs6 (fun k hk hp => HG6.out.block k hk (fun e => hp e.symm)) (fun hp => ((h4g g hp).1 rfl)) (fun k hG hp => by
                  have h := h4g k hp
                  rcases hG with h' | h'
                  · exact h.2.1 h'
                  · omega) (fun k cur hc hp => by
                  obtain ⟨_, cs, hcs⟩ := q_typed HBA6.out k hp
                  exact blk_ne hcs hc (by decide) rfl)
              have hg6' : g < wr.heap.size := HI6.out.lt
              have hF6 : RestIn w6 g (fun k => (F k ∨ w4.heap.size ≤ k) ∧ k < wr.heap.size) := fun rv hr k hk => ⟨hke.2 rv hr k hk, rest_lt HI6.out rv (by rw [← World.cell?_of_block (a := ⟨g, 9, none⟩) (HG6.out.block g hg6' (fun e => (h4g g e.symm).1 rfl))]; exact hr) k hk⟩
              have hof6 : ∀ k, v6.ownBlock = some k → ¬ ((F k ∨ w4.heap.size ≤ k) ∧ k < wr.heap.size) ∧ k ≠ g := fun k hk => by
                rcases HAT.out with h | ⟨b', h, hb'⟩
                · have h4 := h4g k (h.symm.trans hk)
                  exact ⟨fun hx => by rcases hx.1 with hx | hx; exact h4.2.1 hx; omega, h4.1⟩
                · have e : some b' = some k := h.symm.trans hk
                  injection e with e
                  exact ⟨fun hx => by omega, by omega⟩
              have hb16 : Below w1.heap.size w1 w6 := HB1R.out.trans ⟨HG6.out.os, HG6.out.tape, HG6.out.output, hs6, fun k hk => HG6.out.block k (by have : k < w1.heap.size := hk; omega) (fun e => by have h1 := (q_typed HBA6.out k e.symm).1; have : k < w1.heap.size := hk; omega)⟩
              have HI7 := Aside0.mk hke.1
              have HF7 := Aside0.mk hF6
              have HOF7 := Aside0.mk hof6
              have HB17 := Aside0.mk hb16
              have hal7 : (al ++ bi).length ≤ 5000 := by rw [List.length_append]; exact h5x
              have HAL7 := Aside0.mk (byteL_app HAL.out HBY.out)
              have HRELZ := Aside0.mk (fun (wz : World) (hz : Below w6.heap.size w6 wz) => puts_step HAL7.out hal7 HBA7.out HI7.out HF7.out (fun k hk => by have := hk.2; omega) HOF7.out HB17.out hz)
              clear hke hF6 hof6 hb16 h4g
              have hs7 : w1.heap.size ≤ w6.heap.size := HB17.out.size
              obtain ⟨A6, c6, rfl⟩ := bytes_slice HBA7.out
              have HC7' := Aside0.mk (bytes_C HBA7.out).1
              obtain ⟨av, hav⟩ : ∃ av, av = al ++ bi := ⟨_, rfl⟩
              rw [← hav] at HRELZ HC7' HI7 hal7 HAL7 ⊢
              have he := eq_hash av
              have HLTi := Aside0.mk (show i + 1 ≤ n from HLT.out)
              have hi40 : i ≤ 40 := by omega
              clear HBA7 HI6 HR6 HBA6 HCB6 hav
              by_cases h3 : i % 3 = 0
              · have h3z : ((i : Int) % 3 == 0) = true := by rw [beq_iff_eq]; omega
                go_wp2_with (first | (go_at_call 13; (with_reducible refine (sum_in HI7.out).mono ?_); rintro e w7 ⟨rfl, hi7, hb7⟩; have HB8 := Aside0.mk hb7; clear hb7 hi7) | (go_at_call 10; (with_reducible refine (ref_calls A6 c6 av _ (Kd.C_below HC7'.out HB8.out) (by omega) HAL7.out).mono ?_); rintro e w8 ⟨rfl, hb8⟩; have HB9 := Aside0.mk hb8; clear hb8))
                go_roundg (n - (i + 1))
                case measure => exact HM.out
                case rel =>
                  have hz := HRELZ.out _ (HB8.out.trans (HB9.out.mono HB8.out.size))
                  exact ⟨i + 1, av, _, HLTi.out, Nat.le_refl _, by push_cast; rfl, hal7, ⟨hz.1⟩, ⟨hz.2.1⟩, ⟨hz.2.2.1⟩, ⟨hz.2.2.2.1⟩, ⟨hz.2.2.2.2.1⟩, ⟨hz.2.2.2.2.2.1⟩, ⟨hz.2.2.2.2.2.2⟩⟩
              · have h3z : ((i : Int) % 3 == 0) = false := by rw [beq_eq_false_iff_ne]; omega
                go_wp2
                go_roundg (n - (i + 1))
                case measure => exact HM.out
                case rel =>
                  have hz := HRELZ.out _ (Below.refl _ _)
                  exact ⟨i + 1, av, _, HLTi.out, Nat.le_refl _, by push_cast; rfl, hal7, ⟨hz.1⟩, ⟨hz.2.1⟩, ⟨hz.2.2.1⟩, ⟨hz.2.2.2.1⟩, ⟨hz.2.2.2.2.1⟩, ⟨hz.2.2.2.2.2.1⟩, ⟨hz.2.2.2.2.2.2⟩⟩
    · have hin : i = n := by omega
      have HIN := Aside0.mk hin
      have hiz : ¬ (i : Int) < (n : Int) := by omega
      obtain ⟨A4, c4, rfl⟩ := bytes_slice HBA.out
      have HC4 := Aside0.mk (bytes_C HBA.out).1
      have he := eq_hash al
      have hs1 := HB1.out.size
      have hsq := HBQ.out.size
      clear hin hi hgg hlt HBA
      go_wp2_with (first | (go_at_call 10; (with_reducible refine (ref_calls A4 c4 al _ (Kd.C_below HC4.out HB5.out) (by omega) HAL.out).mono ?_); rintro e w6 ⟨rfl, hb6⟩; have HI6 := Aside0.mk (HI5.out.step hb6); have HB6 := Aside0.mk hb6; clear hb6) | (go_at_call 13; (with_reducible refine (sum_in HI7.out).mono ?_); rintro e w8 ⟨rfl, hi8, hb8⟩; have HB8 := Aside0.mk hb8; clear hb8 hi8) | (go_at_call 13; (with_reducible refine (sum_in HI6.out).mono ?_); rintro e w7 ⟨rfl, hi7, hb7⟩; have HI7 := Aside0.mk hi7; have HB7 := Aside0.mk hb7; clear hb7 hi7) | (go_at_call 13; (with_reducible refine (sum_in HI.out).mono ?_); rintro e w5 ⟨rfl, hi5, hb5⟩; have HI5 := Aside0.mk hi5; have HB5 := Aside0.mk hb5; clear hb5 hi5))
      go_ret
      have s5 := HB5.out.size
      have s6 := HB6.out.size
      have s7 := HB7.out.size
      exact ⟨rfl, (HB1.out.trans (HBQ.out.mono hs1)).trans (((HB5.out.mono (by omega)).trans (HB6.out.mono (by omega))).trans ((HB7.out.mono (by omega)).trans (HB8.out.mono (by omega))))⟩
end Go.Proofs.Ytocnkfepiknglaa.PAll
