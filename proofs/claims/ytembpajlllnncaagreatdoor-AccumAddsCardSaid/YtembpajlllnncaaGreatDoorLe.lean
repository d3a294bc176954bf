/- Numbers' bytes, the lowest first; a block that is a row of bytes. -/
import Derived.Test.YtembpajlllnncaaGreatDoorBase
set_option linter.unusedVariables false
set_option linter.unusedSimpArgs false
namespace Go.Proofs.YtembpajlllnncaaGreatDoor
open Go.RowKit

/-- A block that is a row of bytes, whole. -/
def Blk (w : World) (b : Nat) (pg : List UInt8) : Prop := w.heap[b]? = some (.cells (byteVals pg).toArray 5 (0, 0))
theorem Blk.lt {w : World} {b : Nat} {pg : List UInt8} (h : Blk w b pg) : b < w.heap.size := lt_of_block h
theorem Blk.cell {w : World} {b : Nat} {pg : List UInt8} (h : Blk w b pg) {i : Nat} (hi : i < pg.length) : w.cell? ⟨b, i, none⟩ = some (.int .u8 (pg[i].toNat : Int)) :=
 cell_blk h (by simpa using byteVals_get hi)
theorem Blk.free {w : World} {b : Nat} {pg : List UInt8} (h : Blk w b pg) (i : Nat) : w.frozen? ⟨b, i, none⟩ = false := free_blk h i
theorem Blk.set {w : World} {b : Nat} {pg : List UInt8} (h : Blk w b pg) (i : Nat) (c : UInt8) : Blk (w.setCell ⟨b, i, none⟩ (.int .u8 (c.toNat : Int))) b (pg.set i c) := by
 have := set_blk h i (.int .u8 (c.toNat : Int))
 unfold Blk
 rw [this]
 simp [byteVals, List.map_set]
theorem Blk.row {w : World} {b : Nat} {pg : List UInt8} (h : Blk w b pg) (hm : pg.length ≤ maxLen) : Row w (.slice (some ⟨b, 0, none⟩) pg.length pg.length) pg :=
 ⟨by simp, .inr ⟨b, pg.length, _, rfl, Nat.zero_le _, h, Nat.le_refl _, hm, by simp, by rw [Nat.mul_one]; exact List.take_of_length_le (by simp)⟩⟩

/-- n's k lowest bytes, the lowest first. -/
def leBytes : Nat → Nat → List UInt8
 | 0, _ => []
 | k + 1, n => UInt8.ofNat n :: leBytes k (n / 256)
@[simp] theorem leBytes_length (k : Nat) : ∀ n, (leBytes k n).length = k := by
 induction k with
 | zero => intro n; rfl
 | succ k ih => intro n; simp [leBytes, ih]
theorem leBytes_snoc (k : Nat) : ∀ n, leBytes (k + 1) n = leBytes k n ++ [UInt8.ofNat (n / 256 ^ k)] := by
 induction k with
 | zero => intro n; simp [leBytes]
 | succ k ih => intro n; rw [leBytes, ih]; simp [leBytes, Nat.div_div_eq_div_mul, Nat.pow_succ, Nat.mul_comm]
/-- The number that bytes say. -/
def leVal : List UInt8 → Nat
 | [] => 0
 | c :: l => c.toNat + 256 * leVal l
theorem leVal_lt : ∀ l : List UInt8, leVal l < 256 ^ l.length
 | [] => by simp [leVal]
 | c :: l => by
  have h1 := leVal_lt l
  have h2 := c.toNat_lt
  simp only [leVal, List.length_cons, Nat.pow_succ]
  omega
theorem leVal_snoc (c : UInt8) : ∀ l : List UInt8, leVal (l ++ [c]) = leVal l + 256 ^ l.length * c.toNat
 | [] => by simp [leVal]
 | d :: l => by
  simp only [List.cons_append, leVal, leVal_snoc c l, List.length_cons, Nat.pow_succ]
  rw [Nat.mul_add, Nat.mul_comm (256 ^ l.length) 256, Nat.mul_assoc]; omega
theorem leVal_leBytes (k : Nat) : ∀ n, leVal (leBytes k n) = n % 256 ^ k := by
 induction k with
 | zero => intro n; simp [leBytes, leVal, Nat.mod_one]
 | succ k ih =>
  intro n
  simp only [leBytes, leVal, ih, Nat.pow_succ]
  rw [Nat.mul_comm (256 ^ k) 256, Nat.mod_mul]
  simp

end Go.Proofs.YtembpajlllnncaaGreatDoor
