/- sha.All over an iterator. -/
import Derived.Test.YtocnkfepiknglaaSeq22
import Derived.Test.YtocnkfepiknglaaEq32
import Derived.Test.YtocnkfepiknglaaPutF
namespace Go.Proofs.Ytocnkfepiknglaa.PAll
open Go.RowKit Go.Shelf Go.Proofs.YtocnkfepiknglaaW.PrintWords
set_option linter.unusedVariables false
set_option linter.unusedSimpArgs false
attribute [local go_sem] Oper.semAt_some

def flatB {w0 : World} (zs : List (Piece w0)) : List Int := zs.flatMap Piece.b
theorem flatB_len {w0 : World} : ∀ (zs : List (Piece w0)), (flatB zs).length ≤ zs.length * 20000
  | [] => Nat.zero_le _
  | z :: zs => by
    have h := flatB_len zs
    have hz := z.hl
    unfold flatB at h ⊢
    rw [List.flatMap_cons, List.length_append, List.length_cons]
    omega
/-- Blocks of bytes. -/
def BlkB (w : World) (k : Nat) : Prop := ∃ cur, w.heap[k]? = some (.cells cur 5 (0, 0))
theorem rest_blkB {w : World} {base g : Nat} {all : List Int} (h : HashIn w base g all) : RestIn w g (BlkB w) := by
  obtain ⟨_, _, t, ct, rv, hh, hq, _⟩ := h
  intro rv' hr k hk
  rw [(hash11 hh).1] at hr
  injection hr with hr
  subst hr
  exact (q_typed hq k hk).2
theorem hash_cells {w : World} {base g : Nat} {all : List Int} (h : HashIn w base g all) : ∃ cs, w.heap[g]? = some (.cells cs 49 (0, 0)) := by
  obtain ⟨_, _, t, ct, rv, hh, _⟩ := h
  exact ⟨_, hh⟩
/-- A block that is no cells may turn. -/
theorem hash_others {W W' : World} {row : Option Nat} {base g : Nat} {all : List Int} (h : HashIn W base g all) (hg : W.grownBy W' row) (hr : ∀ r, row = some r → ∃ o : Obj, W.heap[r]? = some o ∧ o.isCells = false) : HashIn W' base g all := by
  refine (hash_keep (w' := W') (fun k => row = some k) h (rest_blkB h) hg.size (fun k hk hp => hg.block k hk (fun e => hp e.symm)) ?_ ?_ ?_).1
  · intro hp
    obtain ⟨o, ho, hc⟩ := hr g hp
    obtain ⟨cs, hcs⟩ := hash_cells h
    rw [hcs] at ho
    cases ho
    cases hc
  · rintro k ⟨cur, hcur⟩ hp
    obtain ⟨o, ho, hc⟩ := hr k hp
    rw [hcur] at ho
    cases ho
    cases hc
  · intro k cur hcur hp
    obtain ⟨o, ho, hc⟩ := hr k hp
    rw [hcur] at ho
    cases ho
    cases hc
theorem cells_others {W W' : World} {row : Option Nat} {k : Nat} {cs : Array Value} {t : TypeId} {p : Nat × Nat} (h : W.heap[k]? = some (.cells cs t p)) (hg : W.grownBy W' row) (hr : ∀ r, row = some r → ∃ o : Obj, W.heap[r]? = some o ∧ o.isCells = false) : W'.heap[k]? = some (.cells cs t p) := by
  refine (hg.block k (blk_lt h) ?_).trans h
  intro e
  obtain ⟨o, ho, hc⟩ := hr k e.symm
  rw [h] at ho
  cases ho
  cases hc
theorem below_others {W W' w : World} {row : Option Nat} {B n : Nat} (h : Below B w W) (hBw : B ≤ w.heap.size) (hg : W.grownBy W' row) (hB : B ≤ n) (hr : ∀ r, row = some r → n ≤ r) : Below B w W' :=
  ⟨hg.os.trans h.os, hg.tape.trans h.tape, hg.output.trans h.output, Nat.le_trans h.size hg.size, fun k hk => by
    have hk' : k < B := hk
    have hs := h.size
    exact (hg.block k (by omega) (fun e => by have := hr k e.symm; omega)).trans (h.block k hk)⟩
theorem store_row {P : Program} {w : World} {g : Nat} {t : TypeId} {old Z : Array Value} (hg : w.heap[g]? = some (.cells old t (0, 0))) (ho : old.size = Z.size) (h1 : Z.all (·.oneCell') = true) : (storeCells ⟨g, 0, none⟩ Z.toList).run P w = .ok () (w.setRow g Z) := by
  have := run_storeCells_from (P := P) g t Z.toList 0 old w hg (by simp; omega) (fun v hv => (Array.all_eq_true_iff_forall_mem.1 h1) v (by simpa using hv))
  simpa using this
theorem piece_block {w0 : World} (x : Piece w0) (h : 0 < x.b.length) (a : Addr) (ha : x.A = some a) : a.block < w0.heap.size := by
  obtain ⟨ad, he, hc⟩ := x.hC.2.2 h
  rw [ha] at he
  injection he with he
  subst he
  obtain ⟨c, h1, h2, h3⟩ := hc 0 _ (List.getElem?_eq_getElem h)
  have h4 := h3 0 _ (by rw [show c = [Value.int .u8 _] from h2]; rfl)
  have := World.block_lt_of_cell? w0 _ h4
  rwa [add_block] at this
set_option maxRecDepth 100000 in
set_option maxHeartbeats 8000000 in
theorem all_calls {St : World → World → Prop} {gf : Nat} {lb : Array Value} (eg : ∀ args w, (callFunc gf args).run Try.prog w = .ok (.enter gf args) w) {w w0 ws : World} (zs : List (Piece w0)) (hN : zs.length ≤ 1000) (hw0 : w0.heap.size ≤ w.heap.size) (hws : Below w0.heap.size w0 ws) (hss : ws.heap.size = w.heap.size)
    (hseq : SeqSt Try.prog 2 gf lb (fun x : Piece w0 => #[x.enc]) (Below w.heap.size) zs St w)
    (hSt : ∀ A B, Below w.heap.size w A → St A B → Below w.heap.size ws B ∧ B.heap.size = A.heap.size ∧ ∃ P : Nat → Prop, (∀ k, ¬ P k → B.heap[k]? = A.heap[k]?) ∧ ∀ k, P k → k < w.heap.size ∧ ∃ cur, A.heap[k]? = some (.cells cur 3 (0, 0))) :
    Calls Try.prog 15 #[.func (.func gf) #[] lb] w fun e w' => e = .returned (.agg (arr32 (hashL (flatB zs)))) ∧ Below w.heap.size ws w' := by
  refine (callsIn_wide (n := 3)).1 ?_
  refine callsIn_of_wp_marks Try.func15 rfl trivial ?_ rfl
  simp only [Try.ntmps15, List.size_toArray, List.length_cons, List.length_nil, Nat.reduceAdd, Nat.reduceSub, Array.replicate_succ, Array.replicate_zero, List.push_toArray, List.append_toArray, List.nil_append, List.cons_append]
  gi_wp2_with (first | (refine ⟨trivial, ?_⟩; gi_at_call 11; refine (callsIn_wide.2 (new_in _)).mono ?_; rintro e w1 ⟨g, rfl, hi1, hb1⟩; have HI1 := Aside0.mk hi1; have HB1 := Aside0.mk hb1; clear hi1 hb1))
  obtain ⟨wA, hWA⟩ : ∃ wA, wA = w.alloc (.cells (arr32 zeros32) 24) := ⟨_, rfl⟩
  have hA0 : wA.heap[w.heap.size]? = some (.cells (arr32 zeros32) 24 (0, 0)) := by rw [hWA]; exact blk_new _ _
  have hAB : Below w.heap.size w wA := by rw [hWA]; exact below_alloc (Below.refl _ _) _
  have hAs : wA.heap.size = w.heap.size + 1 := by rw [hWA, World.size_alloc]
  have hi1 : HashIn w1 wA.heap.size g [] := by rw [hWA]; exact HI1.out
  have hb1 : Below wA.heap.size wA w1 := by rw [hWA]; exact HB1.out
  clear HI1 HB1 hWA
  obtain ⟨w2, hW2⟩ : ∃ w2, w2 = w1.alloc (.cells #[.pointer (some ⟨g, 0, none⟩)] 28) := ⟨_, rfl⟩
  rw [← hW2]
  have h2b : w2.heap[w1.heap.size]? = some (.cells #[.pointer (some ⟨g, 0, none⟩)] 28 (0, 0)) := by rw [hW2]; exact blk_new _ _
  have h2B : Below w1.heap.size w1 w2 := by rw [hW2]; exact below_alloc (Below.refl _ _) _
  have hs1 := hb1.size
  have hs2 := h2B.size
  have h2i := hi1.step h2B
  have h2r := (h2B.block w.heap.size (by show _ < _; omega)).trans ((hb1.block w.heap.size (by show _ < _; omega)).trans hA0)
  have hw2 : Below w.heap.size w w2 := hAB.trans ((hb1.mono (by omega)).trans (h2B.mono (by omega)))
  have hg2 := hi1.lt
  have hgb := hi1.base_le
  clear hW2
  refine rangeFunc_plain (n := 3) (by decide) (gf := gf) (lb := lb) rfl eg (encs := fun x : Piece w0 => #[x.enc]) (Kp := Below w.heap.size) zs (St := St) (w0 := w) hseq (fun h k => h.trans k) (belowK_b (by omega)) hw2 (fun _ => rfl)
    (fun W => HashIn W wA.heap.size g [] ∧ W.heap[w1.heap.size]? = some (.cells #[.pointer (some ⟨g, 0, none⟩)] 28 (0, 0)) ∧ W.heap[w.heap.size]? = some (.cells (arr32 zeros32) 24 (0, 0)))
    (fun pre W => HashIn W wA.heap.size g (flatB pre) ∧ W.heap[w1.heap.size]? = some (.cells #[.pointer (some ⟨g, 0, none⟩)] 28 (0, 0)) ∧ W.heap[w.heap.size]? = some (.cells (arr32 zeros32) 24 (0, 0)) ∧ Below w.heap.size ws W)
    ?i0 ?i ⟨h2i, h2b, h2r⟩ ?st
    (fun x => { tmps := #[.func (.func gf) #[] lb, undef, .pointer (some ⟨w.heap.size, 0, none⟩), .pointer (some ⟨w1.heap.size, 0, none⟩), x.enc, .pointer (some ⟨g, 0, none⟩), .func (.func gf) #[] lb, x.enc, undef, undef, undef, undef, undef], defers := [] }) ?assign ?body ?done
  case i0 =>
    rintro W o ⟨a1, a2, a3⟩
    have hb : Below W.heap.size W (W.alloc o) := below_alloc (Below.refl _ _) _
    exact ⟨a1.step hb, (hb.block _ (blk_lt a2)).trans a2, (hb.block _ (blk_lt a3)).trans a3⟩
  case i =>
    rintro pre W W' row ⟨a1, a2, a3, a4⟩ hg hr
    have hr' : ∀ r, row = some r → ∃ o : Obj, W.heap[r]? = some o ∧ o.isCells = false := fun r e => (hr r e).2
    exact ⟨hash_others a1 hg hr', cells_others a2 hg hr', cells_others a3 hg hr', below_others a4 (by omega) hg (show w.heap.size ≤ w2.heap.size by omega) (fun r e => (hr r e).1)⟩
  case st =>
    rintro A B hA ⟨a1, a2, a3⟩ hs
    obtain ⟨h1, h2, P, h3, h4⟩ := hSt A B hA hs
    have nP : ∀ k, w.heap.size ≤ k → ¬ P k := fun k hk hp => by have := (h4 k hp).1; omega
    have hgA := a1.base_le
    refine ⟨⟨?_, (h3 _ (nP _ (by omega))).trans a2, (h3 _ (nP _ (Nat.le_refl _))).trans a3, h1⟩, fun k o hk ho _ => (h3 k (nP k (by omega))).trans ho⟩
    refine (hash_keep (w' := B) P a1 (rest_blkB a1) (Nat.le_of_eq h2.symm) (fun k _ hp => h3 k hp) (nP g (by omega)) ?_ ?_).1
    · rintro k ⟨cur, hcur⟩ hp
      obtain ⟨_, cur', hc'⟩ := h4 k hp
      exact blk_ne hcur hc' (by decide) rfl
    · intro k cur hcur hp
      obtain ⟨_, cur', hc'⟩ := h4 k hp
      exact blk_ne hcur hc' (by decide) rfl
  case assign =>
    intro l x W K hK
    gi_wp2
    exact hK
  case body =>
    rintro l pre x W ⟨a1, a2, a3, a4⟩ hlen
    have hC : Kd.C (Kd.int .u8) W x.A x.b.length x.b := Kd.C_below x.hC (hws.trans (a4.mono hw0))
    have hpl := flatB_len pre
    have hxl := x.hl
    have HP := Aside0.mk (put_F x.c (BlkB W) a1 (rest_blkB a1) hC (fun h a ha => by have := piece_block x h a ha; omega) x.hB (by omega))
    have hcell := blk_cell a2 0
    unfold Piece.enc
    gi_wp2_with (first | (refine ⟨trivial, ?_⟩; gi_at_call 12; refine (CallsIn.inRound l (callsIn_wide.2 HP.out)).mono ?_; rintro e w3 ⟨rfl, hi3, hb3, hr3, hk3⟩; have HI3 := Aside0.mk hi3; have HB3 := Aside0.mk hb3; have HK3 := Aside0.mk hk3; clear hi3 hb3 hr3 hk3))
    have hKF := HK3.out
    obtain ⟨cs, hcs⟩ := hash_cells a1
    have hgW := a1.lt
    have keep : ∀ (k : Nat) (cur : Array Value) (ty : TypeId), ty ≠ 5 → ty ≠ 49 → W.heap[k]? = some (.cells cur ty (0, 0)) → w3.heap[k]? = some (.cells cur ty (0, 0)) := fun k cur ty h5 h49 hc =>
      (hKF k (blk_lt hc) (fun e => blk_ne hc hcs h49 e) (fun ⟨c5, h⟩ => blk_ne hc h h5 rfl)).trans hc
    refine ⟨⟨HB3.out.size, fun k o hk ho hc => ?_⟩, HB3.out.mono (by omega), ?_, keep _ _ _ (by decide) (by decide) a2, keep _ _ _ (by decide) (by decide) a3, a4.trans (HB3.out.mono (by omega))⟩
    · refine (hKF k (blk_lt ho) ?_ ?_).trans ho
      · intro e
        rw [e, hcs] at ho
        cases ho
        cases hc
      · rintro ⟨c5, h⟩
        rw [ho] at h
        cases h
        cases hc
    · have e : flatB (pre ++ [x]) = flatB pre ++ x.b := by simp [flatB]
      rw [e]
      exact HI3.out
  case done =>
    rintro D W hD ⟨a1, a2, a3, a4⟩ hK
    have hsum := sum_in a1
    obtain ⟨Z, hZ⟩ : ∃ Z, Z = arr32 (hashL (flatB zs)) := ⟨_, rfl⟩
    rw [← hZ] at hsum
    have hzs : Z.size = 32 := by rw [hZ]; exact arr32_size _ (outs_length _ _)
    have hz1 : Z.all (·.oneCell') = true := by rw [hZ]; exact arr32_one _
    have HS := Aside0.mk hsum
    have HZ := Aside0.mk hZ
    clear hsum hZ
    have hcell := blk_cell a2 0
    gi_wp2_with (first | (refine ⟨trivial, ?_⟩; gi_at_call 13; refine (callsIn_wide.2 HS.out).mono ?_; rintro e w3 ⟨rfl, hi3, hb3⟩; have HB3 := Aside0.mk hb3; have hz3 := (hb3.block _ (blk_lt a3)).trans a3; have hst := store_row (P := Try.prog) hz3 (show _ = Z.size by rw [hzs]; exact arr32_size _ rfl) hz1; have HZ3 := Aside0.mk hz3; clear hi3 hb3 hz3))
    have hDl : D < W.heap.size := (Array.getElem?_eq_some_iff.1 hK).1
    have hK3 : (w3.setRow w.heap.size Z).heap[D]? = some (.deferred (some [])) := (setRow_far (by omega)).trans ((HB3.out.block D hDl).trans hK)
    refine ⟨by simp, .inl ⟨_, _, rfl, run_takeDeferred hK3, ?_⟩⟩
    have hD3 : D < w3.heap.size := Nat.lt_of_lt_of_le hDl HB3.out.size
    have hrow : ((w3.setRow w.heap.size Z).putObj D (.deferred none)).heap[w.heap.size]? = some (.cells Z 24 (0, 0)) := (World.putObj_heap_other (by omega)).trans (setRow_heap HZ3.out)
    have hl := run_loadVar_row (P := Try.prog) _ w.heap.size 24 24 Z (0, 0) _ hrow Try.underlying24 rfl (by rw [hzs]; exact size24)
    have hrs : Try.f15.results = #[.cell 2 24] := by kernel_rfl
    refine ⟨.agg Z, ?_, ?_, ?_⟩
    · simp [results, hrs, Act.put, asAddr, hl, Result.andThen]
    · rw [HZ.out]
    · have s0 := a4.size
      have s3 := HB3.out.size
      refine ⟨HB3.out.os.trans a4.os, HB3.out.tape.trans a4.tape, HB3.out.output.trans a4.output, ?_, fun k hk => ?_⟩
      · have : ws.heap.size ≤ w3.heap.size := by omega
        simpa [World.setRow, World.putObj] using this
      · have hk' : k < w.heap.size := hk
        rw [World.putObj_heap_other (by omega), setRow_far (by omega), HB3.out.block k (by show k < _; omega)]
        exact a4.block k hk
end Go.Proofs.Ytocnkfepiknglaa.PAll
