/- What a block comes to: the program's way. -/
import Derived.Test.YtocnkfepiknglaaShaB
namespace Go.Proofs.Ytocnkfepiknglaa.PAll
open Go.RowKit Go.Proofs.YtocnkfepiknglaaW.PrintWords Go.Proofs.YtocnkfepiknglaaW.PrintLast Go.Proofs.YtocnkfepiknglaaW.PrintMore
set_option linter.unusedVariables false
set_option linter.unusedSimpArgs false

/-- bits.RotateLeft32. -/
def rl (x k : Int) : Int := Go.bits .or .u32 (x * 2 ^ min (Go.bits .and .u64 (IntKind.u64.wrap k) 31).toNat 32 % 4294967296) (x / 2 ^ min (IntKind.u64.wrap (32 - Go.bits .and .u64 (IntKind.u64.wrap k) 31)).toNat 32)
def RlOk (k : Int) : Prop := 0 ≤ Go.bits .and .u64 (IntKind.u64.wrap k) 31 ∧ 0 ≤ IntKind.u64.wrap (32 - Go.bits .and .u64 (IntKind.u64.wrap k) 31)
theorem rot_same (x k : Int) (h : RlOk k) (w : World) : Calls Try.prog 26 #[.int .u32 x, .int .i64 k] w fun e w' => e = .returned (.int .u32 (rl x k)) ∧ w' = w := by
  obtain ⟨h1, h2⟩ := h
  go_enter Try.func26, Try.ntmps26
  go_wp2
  go_ret
  exact ⟨rfl, rfl⟩
theorem rlOk7 : RlOk (-7) := ⟨by decide +kernel, by decide +kernel⟩
theorem rlOk18 : RlOk (-18) := ⟨by decide +kernel, by decide +kernel⟩
theorem rlOk17 : RlOk (-17) := ⟨by decide +kernel, by decide +kernel⟩
theorem rlOk19 : RlOk (-19) := ⟨by decide +kernel, by decide +kernel⟩
theorem rlOk6 : RlOk (-6) := ⟨by decide +kernel, by decide +kernel⟩
theorem rlOk11 : RlOk (-11) := ⟨by decide +kernel, by decide +kernel⟩
theorem rlOk25 : RlOk (-25) := ⟨by decide +kernel, by decide +kernel⟩
theorem rlOk2 : RlOk (-2) := ⟨by decide +kernel, by decide +kernel⟩
theorem rlOk13 : RlOk (-13) := ⟨by decide +kernel, by decide +kernel⟩
theorem rlOk22 : RlOk (-22) := ⟨by decide +kernel, by decide +kernel⟩

/-- A word of a block. -/
def word (b : List Int) (i : Nat) : Int :=
  Go.bits .or .u32 (Go.bits .or .u32 (Go.bits .or .u32 (rd b (4 * (i : Int)) % 4294967296 * 16777216 % 4294967296) (rd b (4 * (i : Int) + 1) % 4294967296 * 65536 % 4294967296)) (rd b (4 * (i : Int) + 2) % 4294967296 * 256 % 4294967296)) (rd b (4 * (i : Int) + 3) % 4294967296)
/-- The first words: so many of them. -/
def sched1 (b : List Int) : Nat → List Int
  | 0 => List.replicate 64 0
  | i + 1 => (sched1 b i).set i (word b i)
theorem sched1_length (b : List Int) : ∀ i, (sched1 b i).length = 64
  | 0 => by simp [sched1]
  | i + 1 => by simp [sched1, sched1_length b i]

/-- A later word. -/
def mix (xs : List Int) (j : Nat) : Int :=
  IntKind.u32.wrap (IntKind.u32.wrap (IntKind.u32.wrap (rdOf 0 xs ((j - 16 : Nat) : Int) + rdOf 0 xs ((j - 7 : Nat) : Int)) + Go.bits .xor .u32 (Go.bits .xor .u32 (rl (rdOf 0 xs ((j - 15 : Nat) : Int)) (-7)) (rl (rdOf 0 xs ((j - 15 : Nat) : Int)) (-18))) (rdOf 0 xs ((j - 15 : Nat) : Int) / 8)) + Go.bits .xor .u32 (Go.bits .xor .u32 (rl (rdOf 0 xs ((j - 2 : Nat) : Int)) (-17)) (rl (rdOf 0 xs ((j - 2 : Nat) : Int)) (-19))) (rdOf 0 xs ((j - 2 : Nat) : Int) / 1024))
/-- The words, so many of the later ones. -/
def sched2 (b : List Int) : Nat → List Int
  | 0 => sched1 b 16
  | m + 1 => (sched2 b m).set (16 + m) (mix (sched2 b m) (16 + m))
theorem sched2_length (b : List Int) : ∀ m, (sched2 b m).length = 64
  | 0 => sched1_length b 16
  | m + 1 => by simp [sched2, sched2_length b m]
theorem sched2_next (b : List Int) (j : Nat) (h : 16 ≤ j) : sched2 b (j + 1 - 16) = (sched2 b (j - 16)).set j (mix (sched2 b (j - 16)) j) := by
  obtain ⟨m, rfl⟩ : ∃ m, j = 16 + m := ⟨j - 16, by omega⟩
  rw [show 16 + m + 1 - 16 = m + 1 by omega, show 16 + m - 16 = m by omega]
  rfl

/-- Eight words. -/
structure St where
  a : Int
  b : Int
  c : Int
  d : Int
  e : Int
  f : Int
  g : Int
  h : Int
def one (s : St) (k w : Int) : Int :=
  IntKind.u32.wrap (IntKind.u32.wrap (IntKind.u32.wrap (IntKind.u32.wrap (s.h + Go.bits .xor .u32 (Go.bits .xor .u32 (rl s.e (-6)) (rl s.e (-11))) (rl s.e (-25))) + Go.bits .xor .u32 (Go.bits .and .u32 s.e s.f) (Go.bits .and .u32 (Go.bits .xor .u32 IntKind.u32.max s.e) s.g)) + k) + w)
def two (s : St) : Int :=
  IntKind.u32.wrap (Go.bits .xor .u32 (Go.bits .xor .u32 (rl s.a (-2)) (rl s.a (-13))) (rl s.a (-22)) + Go.bits .xor .u32 (Go.bits .xor .u32 (Go.bits .and .u32 s.a s.b) (Go.bits .and .u32 s.a s.c)) (Go.bits .and .u32 s.b s.c))
def rnd (s : St) (k w : Int) : St := ⟨(one s k w + two s) % 4294967296, s.a, s.b, s.c, (s.d + one s k w) % 4294967296, s.e, s.f, s.g⟩
/-- So many rounds. -/
def rnds (K W : List Int) (s : St) : Nat → St
  | 0 => s
  | i + 1 => rnd (rnds K W s i) (rd K i) (rd W i)
def St.cells (s : St) : Array Value := #[.int .u32 s.a, .int .u32 s.b, .int .u32 s.c, .int .u32 s.d, .int .u32 s.e, .int .u32 s.f, .int .u32 s.g, .int .u32 s.h]

/-- The state, so many of its words added. -/
def stCells (s z : St) (i : Nat) (tv rv : Value) (sz : Int) : Array Value :=
  #[.int .u32 (if 0 < i then (s.a + z.a) % 4294967296 else s.a), .int .u32 (if 1 < i then (s.b + z.b) % 4294967296 else s.b), .int .u32 (if 2 < i then (s.c + z.c) % 4294967296 else s.c), .int .u32 (if 3 < i then (s.d + z.d) % 4294967296 else s.d), .int .u32 (if 4 < i then (s.e + z.e) % 4294967296 else s.e), .int .u32 (if 5 < i then (s.f + z.f) % 4294967296 else s.f), .int .u32 (if 6 < i then (s.g + z.g) % 4294967296 else s.g), .int .u32 (if 7 < i then (s.h + z.h) % 4294967296 else s.h), tv, rv, .int .u64 sz]
def plus (s z : St) : St := ⟨(s.a + z.a) % 4294967296, (s.b + z.b) % 4294967296, (s.c + z.c) % 4294967296, (s.d + z.d) % 4294967296, (s.e + z.e) % 4294967296, (s.f + z.f) % 4294967296, (s.g + z.g) % 4294967296, (s.h + z.h) % 4294967296⟩
/-- A block: the state behind it. -/
def blk (K : List Int) (s : St) (b : List Int) : St := plus s (rnds K (sched2 b 48) s 64)

theorem eight_put1 {w : World} {B t : Nat} {a b c d e f g i : Value} (h : w.heap[B]? = some (.cells #[a, b, c, d, e, f, g, i] t (0, 0))) (v0 v1 v2 v3 v4 v5 v6 v7 : Value) :
    ((((((((w.setCell ⟨B, 0, none⟩ v0).setCell ⟨B, 1, none⟩ v1).setCell ⟨B, 2, none⟩ v2).setCell ⟨B, 3, none⟩ v3).setCell ⟨B, 4, none⟩ v4).setCell ⟨B, 5, none⟩ v5).setCell ⟨B, 6, none⟩ v6).setCell ⟨B, 7, none⟩ v7).heap[B]? = some (.cells #[v0, v1, v2, v3, v4, v5, v6, v7] t (0, 0)) := by
  have := blk_set (blk_set (blk_set (blk_set (blk_set (blk_set (blk_set (blk_set h 0 v0) 1 v1) 2 v2) 3 v3) 4 v4) 5 v5) 6 v6) 7 v7
  simpa using this
theorem eight_far (w : World) (B k : Nat) (h : k ≠ B) (v0 v1 v2 v3 v4 v5 v6 v7 : Value) :
    ((((((((w.setCell ⟨B, 0, none⟩ v0).setCell ⟨B, 1, none⟩ v1).setCell ⟨B, 2, none⟩ v2).setCell ⟨B, 3, none⟩ v3).setCell ⟨B, 4, none⟩ v4).setCell ⟨B, 5, none⟩ v5).setCell ⟨B, 6, none⟩ v6).setCell ⟨B, 7, none⟩ v7).heap[k]? = w.heap[k]? := by
  rw [Below.heap_setCell _ _ _ k h, Below.heap_setCell _ _ _ k h, Below.heap_setCell _ _ _ k h, Below.heap_setCell _ _ _ k h, Below.heap_setCell _ _ _ k h, Below.heap_setCell _ _ _ k h, Below.heap_setCell _ _ _ k h, Below.heap_setCell _ _ _ k h]
theorem eight_below {w w0 : World} {B : Nat} (hb : Below w0.heap.size w0 w) (h : w0.heap.size ≤ B) (v0 v1 v2 v3 v4 v5 v6 v7 : Value) :
    Below w0.heap.size w0 ((((((((w.setCell ⟨B, 0, none⟩ v0).setCell ⟨B, 1, none⟩ v1).setCell ⟨B, 2, none⟩ v2).setCell ⟨B, 3, none⟩ v3).setCell ⟨B, 4, none⟩ v4).setCell ⟨B, 5, none⟩ v5).setCell ⟨B, 6, none⟩ v6).setCell ⟨B, 7, none⟩ v7) :=
  below_set (below_set (below_set (below_set (below_set (below_set (below_set (below_set hb h) h) h) h) h) h) h) h

end Go.Proofs.Ytocnkfepiknglaa.PAll
