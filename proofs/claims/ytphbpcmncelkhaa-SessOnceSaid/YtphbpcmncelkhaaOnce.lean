/- Each handle is taken once at most: the law on the book's list, in plain Lean. -/
import Derived.Test.YtphbpcmncelkhaaRoom16
namespace Go.Proofs.Ytphbpcmncelkhaa.Sess
open Go.RowKit Go.Proofs.Ytphbpcmncelkhaa.PSessPlays
set_option linter.unusedVariables false
set_option linter.unusedSimpArgs false

/-- What has begun, and what the book still holds. -/
structure Held (f : Int → Option Int) (l : List S34) (last : Int) : Prop where
  mem : ∀ y ∈ l, f y.f0 = some y.f3
  apart : l.Pairwise (fun a b => a.f0 ≠ b.f0)
  key : ∀ h, (f h).isSome → h ≤ last

theorem Held.start : Held (fun _ => none) [] 0 := ⟨fun y h => absurd h (by simp), List.Pairwise.nil, fun h hh => by simp at hh⟩
theorem Held.sub {f : Int → Option Int} {l l' : List S34} {last : Int} (k : Held f l last) (h : l'.Sublist l) : Held f l' last :=
  ⟨fun y hy => k.mem y (h.subset hy), k.apart.sublist h, k.key⟩
theorem Held.add {f : Int → Option Int} {l : List S34} {last : Int} (k : Held f l last) (s : S34) (e : Int) :
    Held (fun x => if x = last + 1 then some e else f x) (l ++ [newS s (last + 1) e]) (last + 1) := by
  have hle : ∀ y ∈ l, y.f0 ≤ last := fun y hy => k.key _ (by rw [k.mem y hy]; rfl)
  refine ⟨fun y hy => ?_, ?_, fun h hh => ?_⟩
  · rcases List.mem_append.1 hy with h | h
    · have := hle y h
      simp only [if_neg (show ¬ y.f0 = last + 1 by omega)]
      exact k.mem y h
    · obtain rfl := List.mem_singleton.1 h
      simp [newS]
  · rw [List.pairwise_append]
    refine ⟨k.apart, List.pairwise_singleton _ _, fun a ha b hb => ?_⟩
    obtain rfl := List.mem_singleton.1 hb
    have := hle a ha
    simp only [newS]
    omega
  · by_cases hx : h = last + 1
    · omega
    · simp only [if_neg hx] at hh
      have := k.key h hh
      omega

def onceS (d : Int) : S34 := ⟨0, ⟨#[117]⟩, drawL d 40, 0, false, false⟩
/-- What a Begin of SessOnce does. -/
theorem once_begin (L last now d : Int) (l : List S34) (hL : 1 ≤ L ∧ L ≤ 256) (h0 : 0 ≤ last ∧ last ≤ 1000) (hl : l.length ≤ 99) (hn : 0 ≤ now ∧ now ≤ 1000000) :
    beginS 100 L last l (onceS d) now = (0, 82, last, sweepS now l) ∨ beginS 100 L last l (onceS d) now = (last + 1, 0, last + 1, sweepS now l ++ [newS (onceS d) (last + 1) (now + L)]) := by
  have hf : (sweepS now l).length ≤ l.length := List.length_filter_le _ _
  have hu : ¬ ((onceS d).f1.toList.isEmpty = true ∨ 64 < ((onceS d).f1.size : Int)) := by
    simp only [onceS]
    decide +kernel
  have hd : ¬ (((onceS d).f2.length : Int) < 16 ∨ 64 < ((onceS d).f2.length : Int)) := by
    simp [onceS, drawL_length]
  have he : endsS L now = now + L := by unfold endsS; rw [IntKind.wrap_u64, if_pos (by omega)]; omega
  unfold beginS
  rw [if_neg hu, if_neg hd]
  by_cases hany : (sweepS now l).any (fun y => sameD y.f2 (onceS d).f2) = true
  · rw [if_pos hany]; exact .inl rfl
  · rw [if_neg hany, if_neg (by omega), if_neg (by omega), he]; exact .inr rfl

/-- What a Take does: nothing under that handle; or its time is over; or the session. -/
theorem take_cases (h now : Int) (l : List S34) :
    ((∀ y ∈ l, y.f0 ≠ h) ∧ takeS h now l = (z34, 87, l)) ∨
    ∃ (k : Nat) (y : S34), l[k]? = some y ∧ y.f0 = h ∧ ((y.f3 ≤ now ∧ takeS h now l = (z34, 85, l.eraseIdx k)) ∨ (now < y.f3 ∧ takeS h now l = (y, 0, l.eraseIdx k))) := by
  rcases idxq_cases (fun j => (l.getD j z34).f0 == h) l.length with ⟨k, hk, h1, h2⟩ | hno
  · right
    have hi : idxP (fun y => y.f0 == h) l = k := idxq_hit hk h1 h2
    have hy := getD_of hk
    refine ⟨k, l.getD k z34, hy, by simpa using h1, ?_⟩
    by_cases hq : (l.getD k z34).f3 ≤ now
    · left
      refine ⟨hq, ?_⟩
      unfold takeS
      rw [hi, if_neg (by omega), Int.toNat_natCast, if_pos hq]
    · right
      refine ⟨by omega, ?_⟩
      unfold takeS
      rw [hi, if_neg (by omega), Int.toNat_natCast, if_neg hq]
  · left
    refine ⟨fun y hy => ?_, ?_⟩
    · obtain ⟨j, hj, rfl⟩ := List.mem_iff_getElem.1 hy
      have := hno j hj
      have e : l.getD j z34 = l[j] := by rw [List.getD_eq_getElem?_getD, List.getElem?_eq_getElem hj]; rfl
      rw [e] at this
      simpa using this
    · have hi : idxP (fun y => y.f0 == h) l = -1 := idxq_miss hno
      unfold takeS
      rw [hi]
      rfl

/-- Handles taken are no longer in the book. -/
def Gone (g : Int → Bool) (l : List S34) : Prop := ∀ y ∈ l, g y.f0 = false

theorem erase_apart {l : List S34} (hp : l.Pairwise (fun a b => a.f0 ≠ b.f0)) {k : Nat} {y : S34} (hk : l[k]? = some y) : ∀ x ∈ l.eraseIdx k, x.f0 ≠ y.f0 := by
  induction l generalizing k with
  | nil => simp at hk
  | cons a l ih =>
    rw [List.pairwise_cons] at hp
    cases k with
    | zero =>
      simp at hk
      subst hk
      intro x hx
      exact fun e => hp.1 x (by simpa using hx) e.symm
    | succ k =>
      simp at hk
      intro x hx
      rw [List.eraseIdx_cons_succ] at hx
      rcases List.mem_cons.1 hx with rfl | hx
      · exact hp.1 y (List.mem_of_getElem? hk)
      · exact ih hp.2 hk x hx

/-- A round of SessOnce's second loop: the state behind it. -/
theorem take_round {f : Int → Option Int} {g : Int → Bool} {l : List S34} {last h now : Int} (k : Held f l last) (kg : Gone g l) :
    ∃ (y : S34) (code : Int) (l2 : List S34), takeS h now l = (y, code, l2) ∧ Held f l2 last ∧ Gone (fun x => if x = h then true else g x) l2 ∧ l2.length ≤ l.length ∧
      ((code = 87) ∨ (code = 85 ∧ g h = false) ∨ (code = 0 ∧ g h = false ∧ f h = some y.f3 ∧ y.f0 = h ∧ now < y.f3)) := by
  rcases take_cases h now l with ⟨hno, e⟩ | ⟨j, y, hj, hy, ⟨ht, e⟩ | ⟨ht, e⟩⟩
  · refine ⟨_, _, _, e, k, fun y hy => ?_, Nat.le_refl _, .inl rfl⟩
    simp only [if_neg (hno y hy)]
    exact kg y hy
  · have hm := List.mem_of_getElem? hj
    refine ⟨_, _, _, e, k.sub (List.eraseIdx_sublist _ _), fun x hx => ?_, ?_, .inr (.inl ⟨rfl, ?_⟩)⟩
    · have h1 := erase_apart k.apart hj x hx
      rw [hy] at h1
      simp only [if_neg h1]
      exact kg x ((List.eraseIdx_sublist _ _).subset hx)
    · exact (List.eraseIdx_sublist _ _).length_le
    · rw [← hy]; exact kg y hm
  · have hm := List.mem_of_getElem? hj
    refine ⟨_, _, _, e, k.sub (List.eraseIdx_sublist _ _), fun x hx => ?_, ?_, .inr (.inr ⟨rfl, ?_, ?_, hy, ht⟩)⟩
    · have h1 := erase_apart k.apart hj x hx
      rw [hy] at h1
      simp only [if_neg h1]
      exact kg x ((List.eraseIdx_sublist _ _).subset hx)
    · exact (List.eraseIdx_sublist _ _).length_le
    · rw [← hy]; exact kg y hm
    · rw [← hy]; exact k.mem y hm

end Go.Proofs.Ytphbpcmncelkhaa.Sess
