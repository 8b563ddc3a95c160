/- The two maps of SessOnce: as functions. -/
import Derived.Test.YtphbpcmncelkhaaTwo
import Derived.Maps.OwnSet
import Derived.Maps.OwnOps
namespace Go.Proofs.Ytphbpcmncelkhaa.Sess
open Go.RowKit Go.Maps
set_option linter.unusedVariables false
set_option linter.unusedSimpArgs false

def OkU (h : Int) : Prop := 0 ≤ h ∧ h ≤ 18446744073709551615
theorem u64_wf {h : Int} (k : OkU h) : (Lit.int .u64 h).wf = true := by
  have h2 : IntKind.u64.min ≤ h ∧ h ≤ IntKind.u64.max := k
  simp [Lit.wf]
  exact h2
theorem keyed25 : Keyed Try.prog 25 := int_keyed Try.underlying25
theorem key25 {h : Int} (k : OkU h) : keyOf Try.prog 25 (.int .u64 h) = some (.int .u64 h) := keyOf_int_mk Try.underlying25 (u64_wf k)
theorem zero25 (w : World) : (zeroValue 25).run Try.prog w = .ok (.int .u64 0) w := by kernel_rfl
theorem zero4 (w : World) : (zeroValue 4).run Try.prog w = .ok (.bool false) w := by kernel_rfl
theorem isKey (h : Int) : WideAt.IsKeyLit (.int .u64 h) := by simp [WideAt.IsKeyLit]

/-- Block b is a map of at most n entries: h's entry is f h. -/
def MapU (w : World) (b n : Nat) (f : Int → Option Int) : Prop :=
  ∃ D : DataW Unit, w.ownsMap Try.prog 25 (plainElem Try.prog 25) b n D ∧ ∀ h, OkU h → Maps.has D (.int .u64 h) = (f h).isSome ∧ D.atKey (.int .u64 h) (.lit (.int .u64 0)) = .lit (.int .u64 ((f h).getD 0))
def MapB (w : World) (b n : Nat) (g : Int → Bool) : Prop :=
  ∃ D : DataW Unit, w.ownsMap Try.prog 25 (plainElem Try.prog 4) b n D ∧ ∀ h, OkU h → D.atKey (.int .u64 h) (.lit (.bool false)) = .lit (.bool (g h))

theorem MapU.made (w : World) : MapU (w.alloc (.map #[] 0)) w.heap.size 0 (fun _ => none) :=
  ⟨.map [], World.ownsMap_made _ _ _ _, fun h _ => ⟨rfl, rfl⟩⟩
theorem MapB.made (w : World) : MapB (w.alloc (.map #[] 0)) w.heap.size 0 (fun _ => false) :=
  ⟨.map [], World.ownsMap_made _ _ _ _, fun h _ => rfl⟩
theorem MapU.kept {w w' : World} {b n : Nat} {f : Int → Option Int} (k : MapU w b n f) (hb : b < w.heap.size → w'.heap[b]? = w.heap[b]?) : MapU w' b n f := by
  obtain ⟨D, ho, hD⟩ := k
  have hlt := ho.lt
  obtain ⟨es, clock, h1, h2⟩ := ho
  exact ⟨D, ⟨es, clock, (hb hlt).trans h1, h2⟩, hD⟩
theorem MapB.kept {w w' : World} {b n : Nat} {f : Int → Bool} (k : MapB w b n f) (hb : b < w.heap.size → w'.heap[b]? = w.heap[b]?) : MapB w' b n f := by
  obtain ⟨D, ho, hD⟩ := k
  have hlt := ho.lt
  obtain ⟨es, clock, h1, h2⟩ := ho
  exact ⟨D, ⟨es, clock, (hb hlt).trans h1, h2⟩, hD⟩
theorem MapU.lt {w : World} {b n : Nat} {f : Int → Option Int} (k : MapU w b n f) : b < w.heap.size := by
  obtain ⟨D, ho, hD⟩ := k
  exact ho.lt
theorem MapB.lt {w : World} {b n : Nat} {f : Int → Bool} (k : MapB w b n f) : b < w.heap.size := by
  obtain ⟨D, ho, hD⟩ := k
  exact ho.lt

theorem MapU.look {w : World} {b n : Nat} {f : Int → Option Int} (k : MapU w b n f) {h : Int} (hh : OkU h) :
    (Instr.lookup 28 (.map (some b)) (.int .u64 h) true).run Try.prog w = .ok (.tuple #[.int .u64 ((f h).getD 0), .bool (f h).isSome]) w := by
  obtain ⟨D, ho, hD⟩ := k
  obtain ⟨v, ps, hrun, hv⟩ := ho.look_ok (zd := .lit (.int .u64 0)) (zp := []) keyed25 Try.underlying28 (zero25 w) (plainElem_int Try.underlying25 (by decide)) (key25 hh)
  rw [(hD h hh).2] at hv
  obtain ⟨c, rfl, hc, _⟩ := plainElem_int_inv Try.underlying25 hv
  injection hc with hc _
  injection hc with hc
  injection hc with _ hc
  rw [hrun, (hD h hh).1, ← hc]
theorem MapB.look {w : World} {b n : Nat} {g : Int → Bool} (k : MapB w b n g) {h : Int} (hh : OkU h) :
    (Instr.lookup 36 (.map (some b)) (.int .u64 h) false).run Try.prog w = .ok (.bool (g h)) w := by
  obtain ⟨D, ho, hD⟩ := k
  obtain ⟨v, ps, hrun, hv⟩ := ho.lookup (zd := .lit (.bool false)) (zp := []) keyed25 Try.underlying36 (zero4 w) (plainElem_bool Try.underlying4 false) (key25 hh)
  rw [hD h hh] at hv
  have hvb : v = .bool (g h) := by
    unfold plainElem at hv
    rw [Try.underlying4] at hv
    cases v <;> simp_all
  rw [hrun, hvb]
theorem MapU.put {w : World} {b n : Nat} {f : Int → Option Int} (k : MapU w b n f) {h v : Int} (hh : OkU h) (hv : OkU v) (hn : n < maxLen) :
    ∃ w', (Instr.mapUpdate 28 (.map (some b)) (.int .u64 h) (.int .u64 v)).run Try.prog w = .ok () w' ∧ MapU w' b (n + 1) (fun x => if x = h then some v else f x) ∧ w.grownBy w' (some b) := by
  obtain ⟨D, ho, hD⟩ := k
  obtain ⟨w', h1, h2, h3⟩ := ho.update keyed25 Try.underlying28 hn (key25 hh) (plainElem_int Try.underlying25 (u64_wf hv))
  refine ⟨w', h1, ⟨_, h2, fun x hx => ?_⟩, h3⟩
  by_cases hxh : x = h
  · subst hxh
    rw [has_put_same ho.isMap (isKey x), atKey_put_same ho.isMap (isKey x)]
    simp
  · have hne : (Lit.int .u64 x) ≠ (Lit.int .u64 h) := fun e => hxh (by injection e)
    rw [has_put_other hne, atKey_put_other hne]
    simp only [if_neg hxh]
    exact hD x hx
theorem MapB.put {w : World} {b n : Nat} {g : Int → Bool} (k : MapB w b n g) {h : Int} {v : Bool} (hh : OkU h) (hn : n < maxLen) :
    ∃ w', (Instr.mapUpdate 36 (.map (some b)) (.int .u64 h) (.bool v)).run Try.prog w = .ok () w' ∧ MapB w' b (n + 1) (fun x => if x = h then v else g x) ∧ w.grownBy w' (some b) := by
  obtain ⟨D, ho, hD⟩ := k
  obtain ⟨w', h1, h2, h3⟩ := ho.update keyed25 Try.underlying36 hn (key25 hh) (plainElem_bool Try.underlying4 v)
  refine ⟨w', h1, ⟨_, h2, fun x hx => ?_⟩, h3⟩
  by_cases hxh : x = h
  · subst hxh
    rw [atKey_put_same ho.isMap (isKey x)]
    simp
  · have hne : (Lit.int .u64 x) ≠ (Lit.int .u64 h) := fun e => hxh (by injection e)
    rw [atKey_put_other hne]
    simp only [if_neg hxh]
    exact hD x hx

end Go.Proofs.Ytphbpcmncelkhaa.Sess
