/- A book's Begin by a session whose draw has just been made; SessRoom's pure side. -/
import Derived.Test.YtphbpcmncelkhaaBook14
namespace Go.Proofs.Ytphbpcmncelkhaa.Sess
open Go.RowKit Go.Shelf Go.Proofs.YtphbpcmncelkhaaW.PrintWords Go.Proofs.YtphbpcmncelkhaaW.PrintLast Go.Proofs.YtphbpcmncelkhaaW.PrintMore Go.Proofs.Ytphbpcmncelkhaa.PSessPlays
set_option linter.unusedVariables false
set_option linter.unusedSimpArgs false

theorem begin_drawn (F : Nat → Prop) (g base : Nat) (room life last now : Int) (l : List S34) (hh : Int) (u : ByteArray) (e : Int) (r a : Bool) (A : Option Addr) (c : Nat) (dl : List Int) (w w2 : World)
    (hB : BookAt w base F g 58 room life last l) (hF : ∀ k, F k → k < w.heap.size) (hn : l.length ≤ 1000000) (h2 : Below w.heap.size w w2) (hr : Kd.R (Kd.int .u8) 5 w2 w.heap.size (fun _ => True) (.slice A dl.length c) dl)
    (hl0 : 0 ≤ last) (hl1 : last ≤ 18446744073709551615) (o : Int × Int × Int × List S34) (ho : beginS room life last l ⟨hh, u, dl, e, r, a⟩ now = o) :
    Calls Try.prog 9 #[.pointer (some ⟨g, 0, none⟩), .agg #[.int .u64 hh, .string u, .slice A dl.length c, .int .u64 e, .bool r, .bool a], .int .u64 now] w2 fun e' w' => e' = .returned (.tuple #[.int .u64 o.1, .int .i64 o.2.1]) ∧
      BookAt w' base (fun k => (F k ∨ w2.heap.size ≤ k) ∧ k < w'.heap.size) g 58 room life o.2.2.1 o.2.2.2 ∧ Ft F w2 w' := by
  subst ho
  have h := begin_calls F (fun k => w.heap.size ≤ k) g base w.heap.size room life last now l ⟨hh, e, u, A, dl.length, c, r, a⟩ ⟨hh, u, dl, e, r, a⟩ w2
    (hB.step (fun k hk hlt => h2.block k hlt)) (fun k hk => Nat.lt_of_lt_of_le (hF k hk) h2.size) hn ⟨rfl, rfl, rfl, rfl, rfl, rfl, Kd.R_mono (Kd.R_bound hr) (fun k hk => hk.2.1)⟩ (fun k hk hf => by have := hF k hf; omega) hl0 hl1
  refine h.mono ?_
  rintro e' w' ⟨rfl, hb, hf⟩
  exact ⟨rfl, hb.bound, hf⟩

def userU : ByteArray := ⟨#[117]⟩
def roomS (i : Int) : S34 := ⟨0, ⟨#[117]⟩, drawL i 30, 0, false, false⟩
def roomL (i : Nat) : List S34 := (List.range i).map fun (j : Nat) => newS (roomS j) (j + 1) (10 + ((j % 3 : Nat) : Int))

theorem roomL_length (i : Nat) : (roomL i).length = i := by simp [roomL]
theorem roomL_succ (i : Nat) : roomL (i + 1) = roomL i ++ [newS (roomS i) (i + 1) (10 + ((i % 3 : Nat) : Int))] := by
  simp only [roomL, List.range_succ, List.map_append, List.map_cons, List.map_nil]

theorem diff16 : ∀ i : Fin 16, ∀ j : Fin 16, i ≠ j → sameD (drawL (j : Nat) 30) (drawL (i : Nat) 30) = false := by decide +kernel
theorem diff200 : ∀ j : Fin 16, sameD (drawL (j : Nat) 30) (drawL 200 30) = false := by decide +kernel

theorem sweep_room (i : Nat) (now : Int) (h : now < 10) : sweepS now (roomL i) = roomL i := by
  unfold sweepS roomL
  rw [List.filter_eq_self]
  intro y hy
  obtain ⟨j, hj, rfl⟩ := List.mem_map.1 hy
  show decide (now < 10 + ((j % 3 : Nat) : Int)) = true
  rw [decide_eq_true_eq]
  omega
theorem sweep_room_all (i : Nat) (now : Int) (h : 12 ≤ now) : sweepS now (roomL i) = [] := by
  unfold sweepS roomL
  rw [List.filter_eq_nil_iff]
  intro y hy
  obtain ⟨j, hj, rfl⟩ := List.mem_map.1 hy
  show ¬ decide (now < 10 + ((j % 3 : Nat) : Int)) = true
  rw [decide_eq_true_eq]
  omega
theorem any_room (i : Nat) (hi : i < 16) : (roomL i).any (fun y => sameD y.f2 (roomS i).f2) = false := by
  rw [List.any_eq_false]
  intro y hy
  obtain ⟨j, hj, rfl⟩ := List.mem_map.1 hy
  have hj2 : j < i := List.mem_range.1 hj
  have := diff16 ⟨i, hi⟩ ⟨j, by omega⟩ (fun e => by have := congrArg Fin.val e; simp at this; omega)
  simpa [newS, roomS] using this
theorem any_room200 (i : Nat) (hi : i ≤ 16) : (roomL i).any (fun y => sameD y.f2 (roomS 200).f2) = false := by
  rw [List.any_eq_false]
  intro y hy
  obtain ⟨j, hj, rfl⟩ := List.mem_map.1 hy
  have hj2 : j < i := List.mem_range.1 hj
  have := diff200 ⟨j, by omega⟩
  simpa [newS, roomS] using this

theorem roomS_u {i : Int} : ¬ ((roomS i).f1.toList.isEmpty = true ∨ 64 < ((roomS i).f1.size : Int)) := by
  simp only [roomS]
  decide +kernel
theorem roomS_d (i : Int) : ¬ (((roomS i).f2.length : Int) < 16 ∨ 64 < ((roomS i).f2.length : Int)) := by
  simp [roomS, drawL_length]

theorem room_step (i n : Nat) (hi : i < n) (hn : n ≤ 16) : beginS n 10 i (roomL i) (roomS i) ((i % 3 : Nat) : Int) = ((i : Int) + 1, 0, (i : Int) + 1, roomL (i + 1)) := by
  unfold beginS
  rw [if_neg roomS_u, if_neg (roomS_d _), sweep_room i _ (by omega), if_neg (by rw [any_room i (by omega)]; decide), if_neg (by rw [roomL_length]; omega), if_neg (by omega), roomL_succ]
  have : endsS 10 ((i % 3 : Nat) : Int) = 10 + ((i % 3 : Nat) : Int) := by unfold endsS; rw [IntKind.wrap_u64, if_pos (by omega)]; omega
  rw [this]
theorem room_full (n : Nat) (hn : n ≤ 16) : beginS n 10 n (roomL n) (roomS 200) 5 = (0, 83, (n : Int), roomL n) := by
  unfold beginS
  rw [if_neg roomS_u, if_neg (roomS_d _), sweep_room n _ (by omega), if_neg (by rw [any_room200 n hn]; decide), if_pos (by rw [roomL_length]; omega)]
theorem room_again (n : Nat) (hn0 : 1 ≤ n) (hn : n ≤ 16) (t : Int) (ht : 12 ≤ t) : beginS n 10 n (roomL n) (roomS 200) t = ((n : Int) + 1, 0, (n : Int) + 1, [newS (roomS 200) ((n : Int) + 1) (endsS 10 t)]) := by
  unfold beginS
  rw [if_neg roomS_u, if_neg (roomS_d _), sweep_room_all n _ ht, if_neg (by simp), if_neg (by simp; omega), if_neg (by omega)]
  rfl
def endL : List S34 := [newS (roomS 1) 18446744073709551615 18446744073709551615]
theorem end_begin : beginS 3 5 18446744073709551614 [] (roomS 1) 18446744073709551614 = (18446744073709551615, 0, 18446744073709551615, endL) := by
  unfold beginS
  rw [if_neg roomS_u, if_neg (roomS_d _), if_neg (by simp [sweepS]), if_neg (by simp [sweepS]), if_neg (by decide)]
  rfl
theorem end_take : takeS 18446744073709551615 18446744073709551614 endL = (newS (roomS 1) 18446744073709551615 18446744073709551615, 0, []) := by
  unfold takeS endL
  rw [idx1 18446744073709551615 (newS (roomS 1) 18446744073709551615 18446744073709551615) [] rfl]
  rfl
theorem end_none : beginS 3 5 18446744073709551615 [] (roomS 1) 0 = (0, 84, 18446744073709551615, []) := by
  unfold beginS
  rw [if_neg roomS_u, if_neg (roomS_d _), if_neg (by simp [sweepS]), if_neg (by simp [sweepS]), if_pos rfl]
  rfl

end Go.Proofs.Ytphbpcmncelkhaa.Sess
