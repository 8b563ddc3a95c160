/- A hash and where its bytes lie: Put, what keeps it. -/
import Derived.Test.YtocnkfepiknglaaEq32
import Derived.Test.YtocnkfepiknglaaPut2
namespace Go.Proofs.Ytocnkfepiknglaa.PAll
open Go.RowKit Go.Proofs.YtocnkfepiknglaaW.PrintWords Go.Proofs.YtocnkfepiknglaaW.PrintLast Go.Proofs.YtocnkfepiknglaaW.PrintMore
set_option linter.unusedVariables false
set_option linter.unusedSimpArgs false

theorem rest_lt {w : World} {base g : Nat} {all : List Int} (h : HashIn w base g all) : RestIn w g (fun k => k < w.heap.size) := by
  obtain ⟨_, _, t, ct, rv, hh, hq, _⟩ := h
  intro rv' hr k hk
  rw [(hash11 hh).1] at hr
  injection hr with hr
  subst hr
  exact q_lt hq k hk
theorem put_F {w : World} {base g : Nat} {all b : List Int} {A : Option Addr} (c : Nat) (F : Nat → Prop) (h : HashIn w base g all) (hF : RestIn w g F) (hb : Kd.C (Kd.int .u8) w A b.length b) (hbg : 0 < b.length → ∀ a, A = some a → a.block ≠ g) (hby : ByteL b) (hl : all.length + b.length ≤ 100000000) :
    Calls Try.prog 12 #[.pointer (some ⟨g, 0, none⟩), .slice A b.length c] w fun e w' => e = .returned (.tuple #[]) ∧ HashIn w' base g (all ++ b) ∧ Below base w w' ∧ RestIn w' g (fun k => F k ∨ w.heap.size ≤ k) ∧ KeepF w w' g F := by
  obtain ⟨h1, h2, t, ct, hh⟩ := h
  refine (put_callsF F base g t ct _ _ b _ A c w hh h2 (absorb_rest _ _ _ rfl) hb hbg hF hby (by omega) (by omega)).mono ?_
  rintro e w' ⟨rfl, hh', hb', hr, hk⟩
  refine ⟨rfl, ⟨by rw [List.length_append]; exact hl, Nat.le_trans h2 hb'.size, t, ct, ?_⟩, hb', hr, hk⟩
  rw [absorb_append b _ stH all rfl] at hh'
  have e : ((all.length : Int) + (b.length : Int)) % 18446744073709551616 = ((all ++ b).length : Int) := by rw [List.length_append]; push_cast; omega
  rw [e] at hh'
  exact hh'
theorem rest_step {w w' : World} {g : Nat} {F : Nat → Prop} (h : RestIn w g F) (hg : g < w.heap.size) (hb : Below w.heap.size w w') : RestIn w' g F := fun rv hr k hk => h rv ((hb.cell (p := ⟨g, 9, none⟩) hg).symm.trans hr) k hk
/-- Where only blocks of P are written, none of which is the hash's, the hash is as it was. -/
theorem hash_keep {w w' : World} {base g : Nat} {all : List Int} {F : Nat → Prop} (P : Nat → Prop) (h : HashIn w base g all) (hF : RestIn w g F) (hs : w.heap.size ≤ w'.heap.size) (hk : ∀ k, k < w.heap.size → ¬ P k → w'.heap[k]? = w.heap[k]?) (hg : ¬ P g) (hPF : ∀ k, F k → ¬ P k) (hPt : ∀ k cur, w.heap[k]? = some (.cells cur 43 (0, 0)) → ¬ P k) :
    HashIn w' base g all ∧ RestIn w' g F := by
  obtain ⟨h1, h2, t, ct, rv, hh, hq, hgb, ⟨cur, hcur⟩, htc, hx⟩ := h
  have ht := hk t (blk_lt hcur) (hPt t cur hcur)
  have hg' := hk g (blk_lt hh) hg
  have hr0 := hF rv (hash11 hh).1
  refine ⟨⟨h1, by omega, t, ct, rv, hg'.trans hh, bytes_step hq (fun k hk' => hk k (q_lt hq k hk') (hPF k (hr0 k hk'))), hgb, (table_kept ⟨cur, hcur⟩ htc ht).1, (table_kept ⟨cur, hcur⟩ htc ht).2, hx⟩, fun rv' hr k hk' => ?_⟩
  rw [World.cell?_of_block (a := ⟨g, 9, none⟩) hg'] at hr
  exact hF rv' hr k hk'

end Go.Proofs.Ytocnkfepiknglaa.PAll
