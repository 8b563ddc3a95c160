/- (*sha.Hash).Sum. -/
import Derived.Test.YtocnkfepiknglaaSum0
import Derived.Deep.RegionHeld3
namespace Go.Proofs.Ytocnkfepiknglaa.PAll
open Go.RowKit Go.Proofs.YtocnkfepiknglaaW.PrintWords Go.Proofs.YtocnkfepiknglaaW.PrintLast Go.Proofs.YtocnkfepiknglaaW.PrintMore
set_option linter.unusedVariables false
set_option linter.unusedSimpArgs false

theorem bytes_reps (xs : List Int) (w : World) (base : Nat) (ok : Nat → Prop) : Reps ((Kd.int .u8).M w base ok) 1 xs (bytesV xs) := by
  refine ⟨by rw [bytesV_length, Nat.mul_one], fun j p hj => ?_⟩
  show ((bytesV xs).drop (j * 1)).take 1 = [Value.int .u8 p]
  rw [Nat.mul_one]
  have h1 : (bytesV xs)[j]? = some (.int .u8 p) := by unfold bytesV; rw [List.getElem?_map, hj]; rfl
  have hlt : j < (bytesV xs).length := by
    rcases Nat.lt_or_ge j (bytesV xs).length with h | h
    · exact h
    · rw [List.getElem?_eq_none h] at h1; cases h1
  rw [List.drop_eq_getElem_cons hlt, List.take_succ_cons, List.take_zero]
  rw [List.getElem?_eq_getElem hlt] at h1
  injection h1 with h1
  rw [h1]
theorem bytes_C {w : World} {base n c : Nat} {A : Option Addr} {xs : List Int} (h : BytesAt w base (.slice A n c) xs) : Kd.C (Kd.int .u8) w A xs.length xs ∧ (A = none → c = 0 ∧ xs = []) := by
  have hQ : (Kd.int .u8).Q 5 w base (fun _ => True) (.slice A n c) xs := ⟨fun _ _ => trivial, bytesV xs, h, bytes_reps xs w base _⟩
  refine ⟨(Kd.Q_reads' hQ).2.2, fun hA => ?_⟩
  rcases h.2 with ⟨h0, A', he, _⟩ | ⟨g, off, cap, cur, he, _⟩
  · injection he with _ _ hc
    exact ⟨hc, List.eq_nil_of_length_eq_zero h0⟩
  · injection he with h1 _ _
    rw [hA] at h1
    cases h1

def lenT (bits : Int) : Nat → List Int
  | 0 => []
  | j + 1 => lenT bits j ++ [bits / 2 ^ (8 * (7 - j)) % 256]
theorem lenT_length (bits : Int) : ∀ j, (lenT bits j).length = j
  | 0 => rfl
  | j + 1 => by rw [lenT, List.length_append, lenT_length bits j]; rfl
def padZ (sz : Int) : List Int := [128] ++ List.replicate ((119 - sz % 64) % 64).toNat 0
theorem padZ_length (sz : Int) : (padZ sz).length ≤ 64 := by
  unfold padZ
  rw [List.length_append, List.length_replicate]
  simp
  omega
/-- What Sum puts behind. -/
def padOf (sz : Int) : List Int := padZ sz ++ lenT (sz * 8 % 18446744073709551616) 8

def St.list (s : St) : List Int := [s.a, s.b, s.c, s.d, s.e, s.f, s.g, s.h]
theorem idx8 (s : St) (i : Nat) (hi : i < 8) (w : World) : (Instr.index 46 (.agg #[.int .u32 s.a, .int .u32 s.b, .int .u32 s.c, .int .u32 s.d, .int .u32 s.e, .int .u32 s.f, .int .u32 s.g, .int .u32 s.h]) (.int .i64 (i : Int))).run Try.prog w = .ok (.int .u32 (rd s.list (i : Int))) w := by
  rcases i with _ | _ | _ | _ | _ | _ | _ | _ | i
  · kernel_rfl
  · kernel_rfl
  · kernel_rfl
  · kernel_rfl
  · kernel_rfl
  · kernel_rfl
  · kernel_rfl
  · kernel_rfl
  · omega
theorem byteL_lenT (bits : Int) : ∀ j, ByteL (lenT bits j)
  | 0 => fun x hx => by simp [lenT] at hx
  | j + 1 => fun x hx => by
    rw [lenT] at hx
    rcases List.mem_append.1 hx with h | h
    · exact byteL_lenT bits j x h
    · simp only [List.mem_singleton] at h
      subst h
      omega
theorem byteL_padOf (sz : Int) : ByteL (padOf sz) := fun x hx => by
  unfold padOf padZ at hx
  rcases List.mem_append.1 hx with h | h
  · rcases List.mem_append.1 h with h | h
    · simp only [List.mem_singleton] at h
      subst h
      decide
    · have := (List.mem_replicate.1 h).2
      subst this
      decide
  · exact byteL_lenT _ _ x h
theorem padOf_length (sz : Int) : (padOf sz).length ≤ 72 := by
  unfold padOf
  rw [List.length_append, lenT_length]
  have := padZ_length sz
  omega
theorem outB_at (h : List Int) (i k : Nat) (hk : k < 4) : outB h (4 * i + k) = rd h (i : Int) / 2 ^ (24 - 8 * k) % 256 := by
  unfold outB
  rw [show (4 * i + k) / 4 = i by omega, show (4 * i + k) % 4 = k by omega]

/-- A byte put behind bytes. -/
theorem byte_append {ops : Array Oper} {rest : List Oper} {o : Oper} {a : Act} {Q : Exit → Act → World → Prop} (hgd : o.guard = none) (s x : Operand) (ho : o.op = .call { callee := .builtin .append, args := #[s, x], argTypes := #[22, 22] })
    {w0 W : World} {base : Nat} {v : Value} {xs : List Int} {p : Int} (hs : a.eval s = v) (hx : a.eval x = .slice (some ⟨W.heap.size, 0, none⟩) 1 1)
    (HO : Kd.R (Kd.int .u8) 5 W base (fun _ => True) v xs) (HB : Below base w0 W) (hbase : base ≤ W.heap.size) (hl : xs.length ≤ 1000000)
    (h : ∀ v1 w1, Kd.R (Kd.int .u8) 5 w1 base (fun _ => True) v1 (xs ++ [p]) → Below base w0 w1 → W.grownBy w1 v.ownBlock → wpList Try.prog ops Q rest (a.put o.dst v1) w1) :
    wpList Try.prog ops Q (o :: rest) a (W.alloc (.cells #[.int .u8 p] 5)) := by
  refine Kd.R_append (Kd.int .u8) (w0 := w0) base hgd s x 22 5 (.int .u8 0) 1 ho Try.underlying22 infoB rfl (by decide) (by omega) v xs p [.int .u8 p] (fun _ => True) (fun _ => False) hs hx rfl (fun _ hk => hk.elim) (fun _ _ => trivial) HO HB hbase (by omega) ?_
  intro v1 w1 h1 h2 h3 h4
  exact h v1 w1 h1 h2 h3

set_option maxHeartbeats 8000000 in
set_option maxRecDepth 100000 in
theorem sum_calls (base g t ct : Nat) (s : St) (xs : List Int) (sz : Int) (w : World) (hH : HashAt w base g t ct s xs sz) (hx : xs.length < 64) (hsz : 0 ≤ sz) (hsz2 : sz < 18446744073709551616) :
    Calls Try.prog 13 #[.pointer (some ⟨g, 0, none⟩)] w fun e w' => e = .returned (.agg (arr32 (outs (absorb s (xs ++ padOf sz)).1.list 32))) ∧ Below w.heap.size w w' := by
  obtain ⟨rv, hh, hq, hgb, hty, htc, hxb⟩ := hH
  obtain ⟨Ar, cr, rfl⟩ := bytes_slice hq
  have HH := Aside0.mk hh
  have HQ := Aside0.mk hq
  have HTY := Aside0.mk hty
  have HTC := Aside0.mk htc
  have HXB := Aside0.mk hxb
  have hgl := blk_lt hh
  clear hh hq hty htc hxb
  go_enter Try.func13, Try.ntmps13
  go_upto_region 4 with (fail)
  obtain ⟨W, hW, h2, h3, hb⟩ : ∃ W, W = (w.alloc (.cells (arr32 zeros32) 24)).alloc (.cells (arr32 zeros32) 24) ∧ W.heap[w.heap.size]? = some (.cells (arr32 zeros32) 24 (0, 0)) ∧ W.heap[w.heap.size + 1]? = some (.cells (arr32 zeros32) 24 (0, 0)) ∧ Below w.heap.size w W :=
    ⟨_, rfl, heap_alloc2_old _ _ _, heap_alloc2_new _ _ _, below_alloc (below_alloc (Below.refl _ _) _) _⟩
  have hWe : (w.alloc (.cells (arr32 zeros32) 24)).alloc (.cells (arr32 zeros32) 24) = W := hW.symm
  change Code.wp _ _ _ _ ((w.alloc (.cells (arr32 zeros32) 24)).alloc (.cells (arr32 zeros32) 24))
  rw [hWe]
  clear hW hWe
  have hh1 := (hb.block g hgl).trans HH.out
  have hgl1 := blk_lt hh1
  obtain ⟨m0, m1, m2, m3, m4, m5, m6, m7, m8⟩ := hcells9 hh1
  obtain ⟨m9, m10⟩ := hash11 hh1
  have HH1 := Aside0.mk hh1
  have H2 := Aside0.mk h2
  have H3 := Aside0.mk h3
  have HB := Aside0.mk hb
  clear hh1 h2 h3 hb
  have hq1 := bytes_step HQ.out (fun k hk => HB.out.block k (q_lt HQ.out k hk))
  obtain ⟨hC, hnil⟩ := bytes_C hq1
  have HC := Aside0.mk hC
  have HQ1 := Aside0.mk hq1
  have HNIL := Aside0.mk hnil
  clear hC hq1 hnil
  have hxl : xs.length ≤ 1000000 := by omega
  go_region_held3 (fun w' => w'.cell? ⟨g, 0, none⟩ = some (.int .u32 s.a) ∧ w'.cell? ⟨g, 1, none⟩ = some (.int .u32 s.b) ∧ w'.cell? ⟨g, 2, none⟩ = some (.int .u32 s.c) ∧ w'.cell? ⟨g, 3, none⟩ = some (.int .u32 s.d) ∧ w'.cell? ⟨g, 4, none⟩ = some (.int .u32 s.e) ∧ w'.cell? ⟨g, 5, none⟩ = some (.int .u32 s.f) ∧ w'.cell? ⟨g, 6, none⟩ = some (.int .u32 s.g) ∧ w'.cell? ⟨g, 7, none⟩ = some (.int .u32 s.h) ∧ w'.cell? ⟨g, 8, none⟩ = some (.slice (some ⟨t, 0, none⟩) 64 ct) ∧ w'.cell? ⟨g, 9, none⟩ = some (.slice Ar xs.length cr) ∧ w'.cell? ⟨g, 10, none⟩ = some (.int .u64 sz)) (first | exact hS4 | go_keep) (first | (go_at_call 21; (with_reducible refine (clone_calls Ar cr xs _ (Kd.C_drew HC.out) HNIL.out hxl).mono ?_); rintro e w4 ⟨v4, rfl, hq4, hb4⟩; have hbv : Below W.heap.size W w4 := Below.trans (below_drew (Below.refl _ _)) hb4; obtain ⟨A4, c4, rfl⟩ := bytes_slice hq4; have hS4 := And.intro ((hbv.cell (p := ⟨g, 0, none⟩) hgl1).trans m0) (And.intro ((hbv.cell (p := ⟨g, 1, none⟩) hgl1).trans m1) (And.intro ((hbv.cell (p := ⟨g, 2, none⟩) hgl1).trans m2) (And.intro ((hbv.cell (p := ⟨g, 3, none⟩) hgl1).trans m3) (And.intro ((hbv.cell (p := ⟨g, 4, none⟩) hgl1).trans m4) (And.intro ((hbv.cell (p := ⟨g, 5, none⟩) hgl1).trans m5) (And.intro ((hbv.cell (p := ⟨g, 6, none⟩) hgl1).trans m6) (And.intro ((hbv.cell (p := ⟨g, 7, none⟩) hgl1).trans m7) (And.intro ((hbv.cell (p := ⟨g, 8, none⟩) hgl1).trans m8) (And.intro ((hbv.cell (p := ⟨g, 9, none⟩) hgl1).trans m9) ((hbv.cell (p := ⟨g, 10, none⟩) hgl1).trans m10)))))))))); have HQ4 := Aside0.mk hq4; have HB4 := Aside0.mk hbv; clear hq4 hb4))
  obtain ⟨w5, hw5, hx5, hb5⟩ : ∃ W, W = w4.alloc (.cells #[.int .u32 s.a, .int .u32 s.b, .int .u32 s.c, .int .u32 s.d, .int .u32 s.e, .int .u32 s.f, .int .u32 s.g, .int .u32 s.h, .slice (some ⟨t, 0, none⟩) 64 ct, .slice A4 xs.length c4, .int .u64 sz] 49) ∧ W.heap[w4.heap.size]? = some (.cells #[.int .u32 s.a, .int .u32 s.b, .int .u32 s.c, .int .u32 s.d, .int .u32 s.e, .int .u32 s.f, .int .u32 s.g, .int .u32 s.h, .slice (some ⟨t, 0, none⟩) 64 ct, .slice A4 xs.length c4, .int .u64 sz] 49 (0, 0)) ∧ Below w4.heap.size w4 W := ⟨_, rfl, blk_new _ _, below_alloc (Below.refl _ _) _⟩
  rw [← hw5]
  clear hw5
  have n10 := (hb5.cell (p := ⟨g, 10, none⟩) (Nat.lt_of_lt_of_le hgl1 HB4.out.size)).trans hS4.2.2.2.2.2.2.2.2.2.2
  have hgl5 : g < w5.heap.size := Nat.lt_of_lt_of_le hgl1 (Nat.le_trans HB4.out.size hb5.size)
  have HX5 := Aside0.mk hx5
  have HB5 := Aside0.mk hb5
  clear hx5 hb5 hS4 m0 m1 m2 m3 m4 m5 m6 m7 m8 m9 m10
  go_upto_region 5 with (fail)
  have N10 := Aside0.mk n10
  go_wp2_with (first | ((with_reducible refine gate_dst (N := 32) rfl ?_); refine Kd.R_lit (Kd.int .u8) _ 5 ?hg (N := 32) ?hd (xs := [128]) (inner := [.int .u8 128]) (ok := fun _ => True) (okp := fun _ => True) ?hr ?hp (fun _ hk => hk) trivial (Below.refl _ _) (Nat.le_refl _) (by simp) ?_; (case hd => rfl); (case hg => rfl); (case hr => first | (go_simp; done) | (go_simp; rfl)); (case hp => exact bytes_reps [128] _ _ _); intro v1 w6 ho hb hg_ hnew_; clear hg_ hnew_; have n11 := (hb.cell (p := ⟨g, 10, none⟩) hgl5).trans n10; have HO := Aside0.mk ho; have HB6 := Aside0.mk hb; clear ho hb) | (at_builtin; (go_loud (with_reducible refine gate_builtin (b := .append) (xs := #[.tmp 32, .tmp 39]) rfl ?_)); go_loud (refine Kd.R_append_zeros (Kd.int .u8) (w0 := w5) w5.heap.size rfl (.tmp 32) (.tmp 39) 22 42 5 (.int .u8 0) 1 rfl Try.underlying22 Try.underlying42 infoB rfl (by decide) (by omega) v1 [128] (0 : Int) ((119 - sz % 64) % 64) (fun _ => True) rfl rfl ?a3 (fun _ _ => trivial) HO.out ?a4 HB6.out HB6.out.size ?a5 ?_); (go_loud (case a3 => rfl)); (go_loud (case a4 => omega)); (go_loud (case a5 => simp; omega)); intro v2 w7 ho hb hg hat; have HO7 := Aside0.mk ho; have HB7 := Aside0.mk hb; clear ho hb hg hat))

  have HOP : Aside0 (Kd.R (Kd.int .u8) 5 w7 w5.heap.size (fun _ => True) v2 (padZ sz ++ lenT (sz * 8 % 18446744073709551616) 0)) := ⟨by rw [show lenT (sz * 8 % 18446744073709551616) 0 = [] from rfl, List.append_nil]; exact HO7.out⟩
  clear HO7 HO HB6 n10 n11
  go_upto_region 7 with (fail)
  go_loopg [5, 6] 8 (fun gg s5 s6 wr => ∃ (j : Nat) (z : Int), j ≤ 8 ∧ 8 - j ≤ gg ∧ s6 = .int .i64 z ∧ z = 7 - (j : Int) ∧ Aside0 (Kd.R (Kd.int .u8) 5 wr w5.heap.size (fun _ => True) s5 (padZ sz ++ lenT (sz * 8 % 18446744073709551616) j)) ∧ Aside0 (Below w5.heap.size w5 wr))
  case atStart => exact ⟨0, 7, by omega, by omega, rfl, rfl, HOP, HB7⟩
  case round =>
    clear HOP HB7
    obtain ⟨j, z, hj, hgg, rfl, hz, HOP, HBP⟩ := hrel
    by_cases hlt : j < 8
    · obtain ⟨i, rfl⟩ : ∃ i : Nat, z = i := ⟨7 - j, by omega⟩
      have hi : i ≤ 7 := by omega
      have hiz : (0 : Int) ≤ (i : Int) := by omega
      have n10 := (HBP.out.cell (p := ⟨g, 10, none⟩) hgl5).trans N10.out
      obtain ⟨ys, hys⟩ : ∃ ys, ys = padZ sz ++ lenT (sz * 8 % 18446744073709551616) j := ⟨_, rfl⟩
      have hyl : ys.length ≤ 72 := by
        rw [hys, List.length_append, lenT_length]
        have := padZ_length sz
        omega
      have hop := HOP.out
      rw [← hys] at hop
      have HYS := Aside0.mk hys
      have HZ := Aside0.mk hz
      have HLT := Aside0.mk hlt
      have HGG := Aside0.mk hgg
      clear HOP hys hz hlt hj hgg
      obtain ⟨A5, c5, hA5⟩ := Kd.R_slice hop
      subst hA5
      have HOP' := Aside0.mk hop
      clear hop
      go_upto_region 9 with (fail)
      go_wp2_with (first | ((with_reducible refine gate_builtin (b := .append) (xs := #[.tmp 45, .tmp 55]) rfl ?_); at_builtin; refine byte_append rfl (.tmp 45) (.tmp 55) rfl (v := .slice A5 ys.length c5) rfl rfl HOP'.out HBP.out HBP.out.size ?aL ?_; (case aL => omega); intro v6 w6 ho hb hg; have HO6 := Aside0.mk ho; have HB6 := Aside0.mk hb; clear ho hb hg))
      go_roundg (8 - (j + 1))
      case measure => have := HGG.out; have := HLT.out; omega
      case rel =>
        refine ⟨j + 1, (i : Int) - 1, HLT.out, Nat.le_refl _, rfl, ?_, ⟨?_⟩, HB6⟩
        · have := HZ.out; push_cast; omega
        · have h7 : 7 - j = i := by have := HZ.out; have := HLT.out; omega
          have h6 := HO6.out
          rw [IntKind.wrap_u64, HYS.out, List.append_assoc] at h6
          rw [lenT, h7]
          exact h6
    · have hj8 : j = 8 := by omega
      subst hj8
      obtain rfl : z = -1 := by omega
      obtain ⟨A5, c5, hA5⟩ := Kd.R_slice HOP.out
      have hop := HOP.out
      rw [hA5] at hop
      subst hA5
      have hpl : (padZ sz ++ lenT (sz * 8 % 18446744073709551616) 8).length = (padOf sz).length := rfl
      rw [hpl] at hop ⊢
      have hCp : Kd.C (Kd.int .u8) wr A5 (padOf sz).length (padOf sz) := (Kd.R_reads' hop).2.2
      have h4l : w4.heap.size < w5.heap.size := blk_lt HX5.out
      have hbase5 : ∀ a, A5 = some a → a.block ≠ w4.heap.size := fun a ha => by
        have := Kd.R_base hop a.block (by rw [ha]; rfl)
        omega
      have hs4 : W.heap.size ≤ w4.heap.size := HB4.out.size
      have hs0 : w.heap.size ≤ W.heap.size := HB.out.size
      have hall : ∀ k, k < W.heap.size → wr.heap[k]? = W.heap[k]? := fun k hk => by
        rw [HBP.out.block k (by omega), HB5.out.block k (by omega), HB4.out.block k hk]
      have hHX : HashAt wr W.heap.size w4.heap.size t ct s xs sz := by
        obtain ⟨curt, hcurt⟩ := HTY.out
        have htl := blk_lt hcurt
        have hht : wr.heap[t]? = w.heap[t]? := by rw [hall t (by omega), HB.out.block t htl]
        refine ⟨.slice A4 xs.length c4, (HBP.out.block _ h4l).trans HX5.out, bytes_step HQ4.out (fun k hk => ?_), hs4, (table_kept HTY.out HTC.out hht).1, (table_kept HTY.out HTC.out hht).2, HXB.out⟩
        have := q_lt HQ4.out k hk
        rw [HBP.out.block k (by omega), HB5.out.block k this]
      have hsr : W.heap.size ≤ wr.heap.size := by have := HBP.out.size; omega
      have hbr : Below w.heap.size w wr := (HB.out.trans (HB4.out.mono hs0)).trans ((HB5.out.mono (by omega)).trans (HBP.out.mono (by omega)))
      have HP := Aside0.mk (put_calls W.heap.size w4.heap.size t ct s xs (padOf sz) sz A5 c5 wr hHX hsr hx hCp hbase5 (byteL_padOf sz) (by have := padOf_length sz; omega) hsz)
      have HW2 := Aside0.mk ((hall w.heap.size (blk_lt H2.out)).trans H2.out)
      have HW3 := Aside0.mk ((hall (w.heap.size + 1) (blk_lt H3.out)).trans H3.out)
      have h2l := blk_lt H2.out
      have h3l := blk_lt H3.out
      have HBR := Aside0.mk hbr
      clear hop hCp hbase5 hall hHX hbr HX5 HQ4 HB5 HBP HOP H2 H3 HC HQ1 HH1 HNIL hgl5 hgl1 hpl hj hgg hlt hz
      go_wp2_with (go_at_call 12; refine HP.out.mono ?_; rintro e w8 ⟨rfl, hh8, hb8⟩; have HH8 := Aside0.mk hh8; have HB8 := Aside0.mk hb8; obtain ⟨rv8, hc8, -⟩ := hh8; obtain ⟨m0, m1, m2, m3, m4, m5, m6, m7, m8⟩ := hcells9 hc8; clear hb8 hc8)
      obtain ⟨s8, hs8⟩ : ∃ s8, s8 = (absorb s (xs ++ padOf sz)).1 := ⟨_, rfl⟩
      rw [← hs8]
      have HS8 := Aside0.mk hs8
      have hw2 := (HB8.out.block _ h2l).trans HW2.out
      have hw3 := (HB8.out.block _ h3l).trans HW3.out
      have hbw := HBR.out.trans (HB8.out.mono hs0)
      have HW2' := Aside0.mk hw2
      have HW3' : Aside0 (w8.heap[w.heap.size + 1]? = some (.cells (arr32 (outs s8.list (4 * 0))) 24 (0, 0))) := ⟨hw3⟩
      have HBW := Aside0.mk hbw
      rw [← hs8] at m0 m1 m2 m3 m4 m5 m6 m7
      clear hw2 hw3 hbw m0 m1 m2 m3 m4 m5 m6 m7 m8 hs8 HW2 HW3 HBR HP HH8
      go_loopg [64] 8 (fun gg s64 wq => ∃ i : Nat, i ≤ 8 ∧ 8 - i ≤ gg ∧ s64 = .int .i64 i ∧ Aside0 (wq.heap[w.heap.size]? = some (.cells (arr32 zeros32) 24 (0, 0))) ∧ Aside0 (wq.heap[w.heap.size + 1]? = some (.cells (arr32 (outs s8.list (4 * i))) 24 (0, 0))) ∧ Aside0 (Below w.heap.size w wq))
      case atStart => exact ⟨0, by omega, by omega, rfl, HW2', HW3', HBW⟩
      case round =>
        clear HW2' HW3' HBW
        obtain ⟨i, hi, hgg, rfl, HW2, HW3, HBW⟩ := hrel
        by_cases hlt : i < 8
        · have hltz : (i : Int) < 8 := by omega
          have hidx := idx8 s8 i hlt
          have HGG := Aside0.mk hgg
          have HLT := Aside0.mk hlt
          have HI : i ≤ 7 := by omega
          clear hgg hlt hi
          go_wp2
          have HW3' : Aside0 (wr.heap[w.heap.size + 1]? = some (.cells (arr32 (outs s8.list (4 * i + 0))) 24 (0, 0))) := HW3
          clear hidx
          go_loopg [68] 4 (fun gg s68 wq => ∃ k : Nat, k ≤ 4 ∧ 4 - k ≤ gg ∧ s68 = .int .i64 k ∧ Aside0 (wq.heap[w.heap.size]? = some (.cells (arr32 zeros32) 24 (0, 0))) ∧ Aside0 (wq.heap[w.heap.size + 1]? = some (.cells (arr32 (outs s8.list (4 * i + k))) 24 (0, 0))) ∧ Aside0 (Below w.heap.size w wq))
          case atStart => exact ⟨0, by omega, by omega, rfl, HW2, HW3', HBW⟩
          case round =>
            clear HW2 HW3 HW3' HBW
            obtain ⟨k, hk, hgk, rfl, HW2, HW3, HBW⟩ := hrel
            by_cases hkt : k < 4
            · have hktz : (k : Int) < 4 := by omega
              have HKT := Aside0.mk hkt
              have HGK := Aside0.mk hgk
              have hcell := arr32_cell HW3.out (outs_length _ _) (4 * i + k) (by omega)
              have hfz := blk_frozen HW3.out (4 * i + k)
              have hidx4 : 4 * i + k < 32 := by omega
              clear hgk hkt hk
              go_wp2
              go_roundg (4 - (k + 1))
              case measure => have := HGK.out; have := HKT.out; omega
              case rel =>
                have hn := outs_next HW3.out
                rw [outB_at _ _ _ HKT.out] at hn
                exact ⟨k + 1, HKT.out, Nat.le_refl _, by push_cast; rfl, ⟨(Below.heap_setCell wr _ _ _ (Nat.ne_of_lt (Nat.lt_succ_self _))).trans HW2.out⟩, ⟨hn⟩, ⟨below_set HBW.out (Nat.le_succ _)⟩⟩
            · have hk4 : k = 4 := by omega
              subst hk4
              go_wp2
              go_roundg (8 - (i + 1))
              case measure => have := HGG.out; have := HLT.out; omega
              case rel => exact ⟨i + 1, HLT.out, Nat.le_refl _, by push_cast; rfl, HW2, HW3, HBW⟩
        · have hi8 : i = 8 := by omega
          subst hi8
          have hz2 : zeros32.length = 32 := rfl
          have hz3 : (arr32 (outs s8.list (4 * 8))).size = 32 := arr32_size _ (outs_length _ _)
          have hz4 : (arr32 zeros32).size = 32 := arr32_size _ rfl
          go_wp2_with (first | ((with_reducible refine gate_dst (N := 84) rfl ?_); refine load32_at rfl (.tmp 3) rfl rfl HW3.out hz3 ?_) | ((with_reducible refine gate_store (t := 24) (p := 2) rfl ?_); refine store32_at rfl (.tmp 2) (.tmp 84) rfl rfl rfl HW2.out hz4 hz3 (arr32_one _) ?_))
          rw [HS8.out] at HW3 hz3 ⊢
          refine bodyPost_ret (v := .agg (arr32 (outs (absorb s (xs ++ padOf sz)).1.list 32))) ?_ rfl ⟨rfl, ?_⟩
          · have hres : Try.f13.results = #[.cell 2 24] := by kernel_rfl
            have hl := run_loadVar_row (P := Try.prog) (wr.setRow w.heap.size (arr32 (outs (absorb s (xs ++ padOf sz)).1.list 32))) w.heap.size 24 24 (arr32 (outs (absorb s (xs ++ padOf sz)).1.list 32)) (0, 0) _ (setRow_heap HW2.out) Try.underlying24 rfl (by rw [hz3]; exact size24)
            simp [results, hres, Act.put, asAddr, hl, Result.andThen]
          · have hb := HBW.out
            exact ⟨hb.os, hb.tape, hb.output, by simpa [World.setRow] using hb.size, fun k hk => (setRow_far (by omega)).trans (hb.block k hk)⟩

end Go.Proofs.Ytocnkfepiknglaa.PAll
