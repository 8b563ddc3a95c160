/- Plain facts on groups of six and eight bits, without any program: encV, decV, okV and their laws. -/
set_option linter.unusedVariables false
namespace Go.Proofs.Ytabdkmlindgkmaa.B64

/-- Bytes as numbers of six bits. -/
def encV : List Int → List Int
  | [] => []
  | [a] => [a / 4, a % 4 * 16]
  | [a, b] => [a / 4, a % 4 * 16 + b / 16, b % 16 * 4]
  | a :: b :: c :: r => a / 4 :: (a % 4 * 16 + b / 16) :: (b % 16 * 4 + c / 64) :: c % 64 :: encV r

/-- Back: whole bytes alone. -/
def decV : List Int → List Int
  | [] => []
  | [_] => []
  | [x, y] => [x * 4 + y / 16]
  | [x, y, z] => [x * 4 + y / 16, y % 16 * 16 + z / 4]
  | x :: y :: z :: t :: r => (x * 4 + y / 16) :: (y % 16 * 16 + z / 4) :: (z % 4 * 64 + t) :: decV r

/-- What is left over is zero. -/
def okV : List Int → Bool
  | [] => true
  | [_] => false
  | [_, y] => decide (y % 16 = 0)
  | [_, _, z] => decide (z % 4 = 0)
  | _ :: _ :: _ :: _ :: r => okV r

def Byt (l : List Int) : Prop := ∀ x ∈ l, 0 ≤ x ∧ x < 256
def Six (l : List Int) : Prop := ∀ x ∈ l, 0 ≤ x ∧ x < 64

theorem Byt.nil : Byt [] := fun x h => by cases h
theorem Six.nil : Six [] := fun x h => by cases h
theorem Byt.cons {a : Int} {l : List Int} (h : Byt (a :: l)) : (0 ≤ a ∧ a < 256) ∧ Byt l := ⟨h a (by simp), fun x hx => h x (by simp [hx])⟩
theorem Six.cons {a : Int} {l : List Int} (h : Six (a :: l)) : (0 ≤ a ∧ a < 64) ∧ Six l := ⟨h a (by simp), fun x hx => h x (by simp [hx])⟩
theorem Byt.mk {a : Int} {l : List Int} (h0 : 0 ≤ a ∧ a < 256) (h : Byt l) : Byt (a :: l) := fun x hx => by
  rcases List.mem_cons.1 hx with rfl | hx
  · exact h0
  · exact h x hx
theorem Six.mk {a : Int} {l : List Int} (h0 : 0 ≤ a ∧ a < 64) (h : Six l) : Six (a :: l) := fun x hx => by
  rcases List.mem_cons.1 hx with rfl | hx
  · exact h0
  · exact h x hx
theorem Byt.app {l m : List Int} (h : Byt l) (k : Byt m) : Byt (l ++ m) := fun x hx => by
  rcases List.mem_append.1 hx with hx | hx
  · exact h x hx
  · exact k x hx
theorem Byt.take {l : List Int} (h : Byt l) (n : Nat) : Byt (l.take n) := fun x hx => h x (List.mem_of_mem_take hx)
theorem Byt.drop {l : List Int} (h : Byt l) (n : Nat) : Byt (l.drop n) := fun x hx => h x (List.mem_of_mem_drop hx)

theorem encV_six : ∀ l : List Int, Byt l → Six (encV l)
  | [], _ => Six.nil
  | [a], h => by
    obtain ⟨ha, _⟩ := h.cons
    exact Six.mk (by omega) (Six.mk (by omega) Six.nil)
  | [a, b], h => by
    obtain ⟨ha, h⟩ := h.cons
    obtain ⟨hb, h⟩ := h.cons
    exact Six.mk (by omega) (Six.mk (by omega) (Six.mk (by omega) Six.nil))
  | a :: b :: c :: r, h => by
    obtain ⟨ha, h⟩ := h.cons
    obtain ⟨hb, h⟩ := h.cons
    obtain ⟨hc, h⟩ := h.cons
    exact Six.mk (by omega) (Six.mk (by omega) (Six.mk (by omega) (Six.mk (by omega) (encV_six r h))))

theorem decV_byt : ∀ l : List Int, Six l → Byt (decV l)
  | [], _ => Byt.nil
  | [_], _ => Byt.nil
  | [x, y], h => by
    obtain ⟨hx, h⟩ := h.cons
    obtain ⟨hy, h⟩ := h.cons
    exact Byt.mk (by omega) Byt.nil
  | [x, y, z], h => by
    obtain ⟨hx, h⟩ := h.cons
    obtain ⟨hy, h⟩ := h.cons
    obtain ⟨hz, h⟩ := h.cons
    exact Byt.mk (by omega) (Byt.mk (by omega) Byt.nil)
  | x :: y :: z :: t :: r, h => by
    obtain ⟨hx, h⟩ := h.cons
    obtain ⟨hy, h⟩ := h.cons
    obtain ⟨hz, h⟩ := h.cons
    obtain ⟨ht, h⟩ := h.cons
    exact Byt.mk (by omega) (Byt.mk (by omega) (Byt.mk (by omega) (decV_byt r h)))

theorem dec_enc : ∀ l : List Int, Byt l → decV (encV l) = l
  | [], _ => rfl
  | [a], h => by
    obtain ⟨ha, _⟩ := h.cons
    simp only [encV, decV, List.cons.injEq, and_true]
    omega
  | [a, b], h => by
    obtain ⟨ha, h⟩ := h.cons
    obtain ⟨hb, h⟩ := h.cons
    simp only [encV, decV, List.cons.injEq, and_true]
    omega
  | a :: b :: c :: r, h => by
    obtain ⟨ha, h⟩ := h.cons
    obtain ⟨hb, h⟩ := h.cons
    obtain ⟨hc, h⟩ := h.cons
    simp only [encV, decV, List.cons.injEq, dec_enc r h, and_true]
    omega

theorem ok_enc : ∀ l : List Int, Byt l → okV (encV l) = true
  | [], _ => rfl
  | [a], h => by simp only [encV, okV, decide_eq_true_eq]; omega
  | [a, b], h => by simp only [encV, okV, decide_eq_true_eq]; omega
  | a :: b :: c :: r, h => by
    obtain ⟨ha, h⟩ := h.cons
    obtain ⟨hb, h⟩ := h.cons
    obtain ⟨hc, h⟩ := h.cons
    simp only [encV, okV]
    exact ok_enc r h

/-- Just what ends in zeros is what encV gives. -/
theorem enc_dec : ∀ l : List Int, Six l → (encV (decV l) = l ↔ okV l = true)
  | [], _ => by simp [decV, encV, okV]
  | [_], _ => by simp [decV, encV, okV]
  | [x, y], h => by
    obtain ⟨hx, h⟩ := h.cons
    obtain ⟨hy, h⟩ := h.cons
    simp only [decV, encV, okV, List.cons.injEq, and_true, decide_eq_true_eq]
    omega
  | [x, y, z], h => by
    obtain ⟨hx, h⟩ := h.cons
    obtain ⟨hy, h⟩ := h.cons
    obtain ⟨hz, h⟩ := h.cons
    simp only [decV, encV, okV, List.cons.injEq, and_true, decide_eq_true_eq]
    omega
  | x :: y :: z :: t :: r, h => by
    obtain ⟨hx, h⟩ := h.cons
    obtain ⟨hy, h⟩ := h.cons
    obtain ⟨hz, h⟩ := h.cons
    obtain ⟨ht, h⟩ := h.cons
    have ih := enc_dec r h
    simp only [decV, encV, okV, List.cons.injEq, ih]
    constructor
    · rintro ⟨_, _, _, _, e⟩; exact e
    · intro e; exact ⟨by omega, by omega, by omega, by omega, e⟩

theorem encV_length : ∀ l : List Int, (encV l).length = (8 * l.length + 5) / 6
  | [] => by simp [encV]
  | [_] => by simp [encV]
  | [_, _] => by simp [encV]
  | a :: b :: c :: r => by simp only [encV, List.length_cons, encV_length r]; omega

theorem decV_length : ∀ l : List Int, (decV l).length = 6 * l.length / 8
  | [] => by simp [decV]
  | [_] => by simp [decV]
  | [_, _] => by simp [decV]
  | [_, _, _] => by simp [decV]
  | x :: y :: z :: t :: r => by simp only [decV, List.length_cons, decV_length r]; omega

/-- Behind a multiple of three bytes a text goes on with the text of the rest. -/
theorem encV_app : ∀ l : List Int, l.length % 3 = 0 → ∀ m, encV (l ++ m) = encV l ++ encV m
  | [], _, m => by simp [encV]
  | [_], h, m => by simp at h
  | [_, _], h, m => by simp at h
  | a :: b :: c :: r, h, m => by
    have := encV_app r (by simp only [List.length_cons] at h; omega) m
    simp only [List.cons_append, encV, this]

/-- Signs. -/
def sgn (v : Int) : Int := if v < 26 then 65 + v else if v < 52 then 71 + v else if v < 62 then v - 4 else if v = 62 then 45 else 95
/-- A sign's number; -1. -/
def val (c : Int) : Int := if 65 ≤ c ∧ c ≤ 90 then c - 65 else if 97 ≤ c ∧ c ≤ 122 then c - 71 else if 48 ≤ c ∧ c ≤ 57 then c + 4 else if c = 45 then 62 else if c = 95 then 63 else -1
theorem val_sgn {v : Int} (h0 : 0 ≤ v) (h1 : v < 64) : val (sgn v) = v := by unfold val sgn; repeat' split <;> omega
theorem sgn_val {c : Int} (h : 0 ≤ val c) : sgn (val c) = c := by unfold val at h ⊢; unfold sgn; repeat' split <;> omega
theorem val_lt (c : Int) : -1 ≤ val c ∧ val c < 64 := by unfold val; repeat' split <;> omega
theorem sgn_lt {v : Int} (h0 : 0 ≤ v) (h1 : v < 64) : 45 ≤ sgn v ∧ sgn v < 123 := by unfold sgn; repeat' split <;> omega
theorem val_ascii {c : Int} (h : 0 ≤ val c) : 0 ≤ c ∧ c < 128 := by unfold val at h; repeat' split at h <;> omega

/-- The whole text is of signs. -/
def goodT (t : List Int) : Bool := t.all fun c => decide (0 ≤ val c)
/-- What a text means: its bytes; or none. -/
def decT (t : List Int) : Option (List Int) := if goodT t = true ∧ okV (t.map val) = true then some (decV (t.map val)) else none
def encT (b : List Int) : List Int := (encV b).map sgn

theorem map_val_sgn : ∀ l : List Int, Six l → (l.map sgn).map val = l
  | [], _ => rfl
  | a :: l, h => by
    obtain ⟨ha, h⟩ := h.cons
    simp only [List.map_cons, val_sgn ha.1 ha.2, map_val_sgn l h]
theorem map_sgn_val : ∀ t : List Int, goodT t = true → (t.map val).map sgn = t
  | [], _ => rfl
  | c :: t, h => by
    simp only [goodT, List.all_cons, Bool.and_eq_true, decide_eq_true_eq] at h
    simp only [List.map_cons, sgn_val h.1]
    rw [map_sgn_val t h.2]
theorem six_val : ∀ t : List Int, goodT t = true → Six (t.map val)
  | [], _ => Six.nil
  | c :: t, h => by
    simp only [goodT, List.all_cons, Bool.and_eq_true, decide_eq_true_eq] at h
    exact Six.mk ⟨h.1, (val_lt c).2⟩ (six_val t h.2)
theorem good_sgn : ∀ l : List Int, Six l → goodT (l.map sgn) = true
  | [], _ => rfl
  | a :: l, h => by
    obtain ⟨ha, h⟩ := h.cons
    simp only [goodT, List.map_cons, List.all_cons, Bool.and_eq_true, decide_eq_true_eq, val_sgn ha.1 ha.2]
    exact ⟨ha.1, good_sgn l h⟩
theorem decT_encT (b : List Int) (h : Byt b) : decT (encT b) = some b := by
  unfold decT encT
  rw [good_sgn _ (encV_six b h), map_val_sgn _ (encV_six b h), ok_enc b h, dec_enc b h]
  simp
/-- What is taken is the text of the bytes that come out. -/
theorem encT_decT {t b : List Int} (h : decT t = some b) : encT b = t ∧ Byt b := by
  unfold decT at h
  split at h
  · rename_i hg
    obtain ⟨hg, ho⟩ := hg
    injection h with h
    subst h
    have h6 := six_val t hg
    refine ⟨?_, decV_byt _ h6⟩
    unfold encT
    rw [(enc_dec _ h6).2 ho, map_sgn_val t hg]
  · cases h
/-- The reference's way: bytes, whose text is held against the given one. -/
theorem decT_by_text (t : List Int) (hg : goodT t = true) : decT t = if encT (decV (t.map val)) = t then some (decV (t.map val)) else none := by
  have h6 := six_val t hg
  have he : encT (decV (t.map val)) = t ↔ okV (t.map val) = true := by
    rw [← enc_dec _ h6]
    unfold encT
    constructor
    · intro h
      have := congrArg (List.map val) h
      rwa [map_val_sgn _ (encV_six _ (decV_byt _ h6))] at this
    · intro h
      rw [h, map_sgn_val t hg]
  unfold decT
  by_cases ho : okV (t.map val) = true
  · rw [if_pos ⟨hg, ho⟩, if_pos (he.2 ho)]
  · rw [if_neg (fun h => ho h.2), if_neg (fun h => ho (he.1 h))]

end Go.Proofs.Ytabdkmlindgkmaa.B64
