/- A new hash, as HashAt. -/
import Derived.Test.YtocnkfepiknglaaClo
import Derived.Test.YtocnkfepiknglaaShaH
namespace Go.Proofs.Ytocnkfepiknglaa.PAll
open Go.RowKit Go.Proofs.YtocnkfepiknglaaW.PrintWords Go.Proofs.YtocnkfepiknglaaW.PrintLast Go.Proofs.YtocnkfepiknglaaW.PrintMore
set_option linter.unusedVariables false
set_option linter.unusedSimpArgs false

def stH : St := ⟨1779033703, 3144134277, 1013904242, 2773480762, 1359893119, 2600822924, 528734635, 1541459225⟩
theorem new_hash (w : World) : Calls Try.prog 11 #[] w fun e w' => ∃ (g t c : Nat), e = .returned (.pointer (some ⟨g, 0, none⟩)) ∧ HashAt w' w.heap.size g t c stH [] 0 ∧ Below w.heap.size w w' := by
  refine (new_calls w).mono ?_
  rintro e w' ⟨g, t, c, rfl, hg, ht, htg, hh, hr, hb⟩
  refine ⟨g, t, c, rfl, ⟨.slice none 0 0, hh, bytes_nil _ _, hg, ?_, ?_, fun x hx => by simp at hx⟩, hb⟩
  · obtain ⟨g', c', he, _, _, cells, hc⟩ := Kd.R_form hr (by decide)
    injection he with h1 _ _
    injection h1 with h1
    injection h1 with h1 _
    subst h1
    exact ⟨cells, hc⟩
  · obtain ⟨g', c', he, _, _, _, hc⟩ := rowcells hr (by decide)
    injection he with h1 _ _
    injection h1 with h1
    injection h1 with h1 _
    subst h1
    exact fun i hi => hc i hi

end Go.Proofs.Ytocnkfepiknglaa.PAll
