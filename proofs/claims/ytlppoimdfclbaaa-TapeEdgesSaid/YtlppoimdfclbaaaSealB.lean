/- seal: lay and read, numbers whose lowest byte is first. -/
import Derived.Test.YtlppoimdfclbaaaProg
import Derived.Test.YtlppoimdfclbaaaBase
set_option linter.unusedVariables false
set_option linter.unusedSimpArgs false
namespace Go.Proofs.Ytlppoimdfclbaaa
open Go.RowKit

/-- A block that is a row of bytes, whole. -/
def Blk (w : World) (b : Nat) (pg : List UInt8) : Prop := w.heap[b]? = some (.cells (byteVals pg).toArray 5 (0, 0))
theorem Blk.lt {w : World} {b : Nat} {pg : List UInt8} (h : Blk w b pg) : b < w.heap.size := lt_of_block h
theorem Blk.cell {w : World} {b : Nat} {pg : List UInt8} (h : Blk w b pg) {i : Nat} (hi : i < pg.length) : w.cell? ⟨b, i, none⟩ = some (.int .u8 (pg[i].toNat : Int)) :=
  cell_blk h (by simpa using byteVals_get hi)
theorem Blk.free {w : World} {b : Nat} {pg : List UInt8} (h : Blk w b pg) (i : Nat) : w.frozen? ⟨b, i, none⟩ = false := free_blk h i
theorem Blk.set {w : World} {b : Nat} {pg : List UInt8} (h : Blk w b pg) (i : Nat) (c : UInt8) : Blk (w.setCell ⟨b, i, none⟩ (.int .u8 (c.toNat : Int))) b (pg.set i c) := by
  have := set_blk h i (.int .u8 (c.toNat : Int))
  unfold Blk
  rw [this]
  simp [byteVals, List.map_set]
theorem Blk.row {w : World} {b : Nat} {pg : List UInt8} (h : Blk w b pg) (hm : pg.length ≤ maxLen) : Row w (.slice (some ⟨b, 0, none⟩) pg.length pg.length) pg :=
  ⟨by simp, .inr ⟨b, pg.length, _, rfl, Nat.zero_le _, h, Nat.le_refl _, hm, by simp, by rw [Nat.mul_one]; exact List.take_of_length_le (by simp)⟩⟩

/-- n's k lowest bytes, the lowest first. -/
def leBytes : Nat → Nat → List UInt8
  | 0, _ => []
  | k + 1, n => UInt8.ofNat n :: leBytes k (n / 256)
@[simp] theorem leBytes_length (k : Nat) : ∀ n, (leBytes k n).length = k := by
  induction k with
  | zero => intro n; rfl
  | succ k ih => intro n; simp [leBytes, ih]
theorem leBytes_snoc (k : Nat) : ∀ n, leBytes (k + 1) n = leBytes k n ++ [UInt8.ofNat (n / 256 ^ k)] := by
  induction k with
  | zero => intro n; simp [leBytes]
  | succ k ih => intro n; rw [leBytes, ih]; simp [leBytes, Nat.div_div_eq_div_mul, Nat.pow_succ, Nat.mul_comm]
/-- The number that bytes say. -/
def leVal : List UInt8 → Nat
  | [] => 0
  | c :: l => c.toNat + 256 * leVal l
theorem leVal_lt : ∀ l : List UInt8, leVal l < 256 ^ l.length
  | [] => by simp [leVal]
  | c :: l => by
    have h1 := leVal_lt l
    have h2 := c.toNat_lt
    simp only [leVal, List.length_cons, Nat.pow_succ]
    omega
theorem leVal_snoc (c : UInt8) : ∀ l : List UInt8, leVal (l ++ [c]) = leVal l + 256 ^ l.length * c.toNat
  | [] => by simp [leVal]
  | d :: l => by
    simp only [List.cons_append, leVal, leVal_snoc c l, List.length_cons, Nat.pow_succ]
    rw [Nat.mul_add, Nat.mul_comm (256 ^ l.length) 256, Nat.mul_assoc]; omega
theorem leVal_leBytes (k : Nat) : ∀ n, leVal (leBytes k n) = n % 256 ^ k := by
  induction k with
  | zero => intro n; simp [leBytes, leVal, Nat.mod_one]
  | succ k ih =>
    intro n
    simp only [leBytes, leVal, ih, Nat.pow_succ]
    rw [Nat.mul_comm (256 ^ k) 256, Nat.mod_mul]
    simp

/-- pg with s laid at o. -/
def splice (pg : List UInt8) (o : Nat) (s : List UInt8) : List UInt8 := pg.take o ++ s ++ pg.drop (o + s.length)
theorem splice_length {pg : List UInt8} {o : Nat} {s : List UInt8} (h : o + s.length ≤ pg.length) : (splice pg o s).length = pg.length := by simp [splice]; omega
theorem splice_nil (pg : List UInt8) (o : Nat) : splice pg o [] = pg := by simp [splice]
theorem splice_snoc {pg : List UInt8} {o : Nat} {s : List UInt8} (c : UInt8) (h : o + s.length < pg.length) : (splice pg o s).set (o + s.length) c = splice pg o (s ++ [c]) := by
  have h1 : (pg.take o ++ s).length = o + s.length := by simp; omega
  unfold splice
  rw [List.set_append_right _ _ (by omega), h1, Nat.sub_self, List.drop_eq_getElem_cons h]
  simp [Nat.add_assoc]

theorem i64_or_nat (a b : Nat) (ha : a < 9223372036854775808) (hb : b < 9223372036854775808) : bits .or .i64 (a : Int) (b : Int) = ((a ||| b : Nat) : Int) := by
  have hx : a ||| b < 2 ^ 63 := Nat.or_lt_two_pow (by omega) (by omega)
  show IntKind.i64.wrap ((BitVec.ofInt 64 (a : Int) ||| BitVec.ofInt 64 (b : Int)).toNat : Int) = _
  rw [BitVec.toNat_or, ofInt_u64 a (by omega), ofInt_u64 b (by omega)]
  have hm : ((a ||| b : Nat) : Int) % 2 ^ 64 = ((a ||| b : Nat) : Int) := Int.emod_eq_of_lt (by omega) (by omega)
  have hd : decide (((a ||| b : Nat) : Int) ≥ 2 ^ (64 - 1)) = false := by simp; omega
  simp only [IntKind.wrap, IntKind.bits, IntKind.signed, hm, hd, Bool.and_false, Bool.false_eq_true, if_false]
theorem pow_256 (j : Nat) : 2 ^ (8 * j) = 256 ^ j := by rw [Nat.pow_mul]
theorem lay_byte (n j : Nat) : ((n : Int) / 2 ^ (8 * j) % 256) = ((UInt8.ofNat (n / 256 ^ j)).toNat : Int) := by
  have h : (2 : Int) ^ (8 * j) = ((256 ^ j : Nat) : Int) := by rw [← pow_256]; simp
  rw [h, UInt8.toNat_ofNat']
  simp
theorem read_step {l : List UInt8} {k : Nat} (hk : k < l.length) (hl : l.length ≤ 6) :
    bits .or .i64 ((leVal (l.take k) : Nat) : Int) (wrap64 ((l[k].toNat : Int) * 2 ^ (8 * k))) = ((leVal (l.take (k + 1)) : Nat) : Int) := by
  have h1 := leVal_lt (l.take k)
  have h2 := l[k].toNat_lt
  have hlen : (l.take k).length = k := by simp; omega
  rw [hlen] at h1
  have h : (2 : Int) ^ (8 * k) = ((256 ^ k : Nat) : Int) := by rw [← pow_256]; simp
  have hp : 256 ^ k ≤ 256 ^ 5 := Nat.pow_le_pow_right (by omega) (by omega)
  have hpos : 0 < 256 ^ k := Nat.pow_pos (by omega)
  have hm : l[k].toNat * 256 ^ k ≤ 255 * 256 ^ 5 := Nat.mul_le_mul (by omega) hp
  have he : wrap64 ((l[k].toNat : Int) * 2 ^ (8 * k)) = ((l[k].toNat * 256 ^ k : Nat) : Int) := by
    rw [h, ← Int.natCast_mul]; exact wrap_id (by omega) (by omega)
  rw [he, i64_or_nat _ _ (by omega) (by omega), List.take_succ_eq_append_getElem hk, leVal_snoc, hlen, Nat.or_comm, ← pow_256, nat_join (8 * k)]
  · rw [Nat.add_comm, Nat.mul_comm]
  · simp
  · rw [pow_256]; exact h1

set_option maxHeartbeats 1000000 in
theorem seal_lay (pg : List UInt8) (b o k cap n : Nat) (w : World) (hb : Blk w b pg) (hk : o + k ≤ pg.length) (hk8 : k ≤ 7) (hp : pg.length ≤ 1000000) (hn : n < 4611686018427387904) :
    Calls Try.prog 58 #[.slice (some ⟨b, o, none⟩) k cap, .int .i64 n] w fun e w' => e = .returned (.tuple #[]) ∧ Blk w' b (splice pg o (leBytes k n)) ∧ w.grownBy w' (some b) ∧ w'.heap.size = w.heap.size := by
  have hbH := Lib.hid hb; clear hb
  go_enter Try.func58, Try.ntmps58
  go_wp2
  go_loopw [4, 7] (fun _ i wr => ∃ j : Nat, j ≤ k ∧ i = .int .i64 j ∧ Blk wr b (splice pg o (leBytes j n)) ∧ w.grownBy wr (some b) ∧ wr.heap.size = w.heap.size) (fun _ i _ => k - (intOf i).toNat)
  case atStart => exact ⟨0, Nat.zero_le _, rfl, by rw [leBytes, splice_nil]; exact hbH.out, ⟨rfl, rfl, rfl, Nat.le_refl _, fun _ _ _ => rfl⟩, rfl⟩
  case round =>
    obtain ⟨j, hj, rfl, hblk, hgr, hsz⟩ := hrel
    by_cases hlt : j < k
    · have hlen : (splice pg o (leBytes j n)).length = pg.length := splice_length (by simp; omega)
      obtain ⟨c, hcell⟩ : ∃ c, wr.cell? ⟨b, o + j, none⟩ = some c := ⟨_, hblk.cell (i := o + j) (by omega)⟩
      have hfr := hblk.free (o + j)
      have hblkH := Lib.hid hblk; clear hblk
      have hgrH := Lib.hid hgr; clear hgr
      have hszH := Lib.hid hsz; clear hsz
      have hlenH := Lib.hid hlen; clear hlen
      go_wp2
      go_roundw
      case rel =>
        refine ⟨j + 1, by omega, by go_num, ?_, ?_, ?_⟩
        · rw [lay_byte, leBytes_snoc]
          have h := hblkH.out.set (o + j) (UInt8.ofNat (n / 256 ^ j))
          have e := splice_snoc (pg := pg) (o := o) (s := leBytes j n) (UInt8.ofNat (n / 256 ^ j)) (by simp; omega)
          rw [leBytes_length] at e
          rw [e] at h
          exact h
        · exact hgrH.out.trans ⟨rfl, rfl, rfl, by simp, fun i _ hi => Below.heap_setCell _ _ _ _ (fun e => hi (by rw [e]))⟩
        · simpa using hszH.out
      case measure => simp [intOf]; omega
    · obtain rfl : j = k := by omega
      go_wp2
      go_end0
      exact ⟨rfl, hblk, hgr, hsz⟩

theorem seal_lay' (pg : List UInt8) (b o k cap : Nat) (n : Int) (w : World) (hb : Blk w b pg) (hk : o + k ≤ pg.length) (hk8 : k ≤ 7) (hp : pg.length ≤ 1000000) (h0 : 0 ≤ n) (hn : n < 4611686018427387904) :
    Calls Try.prog 58 #[.slice (some ⟨b, o, none⟩) k cap, .int .i64 n] w fun e w' => e = .returned (.tuple #[]) ∧ Blk w' b (splice pg o (leBytes k n.toNat)) ∧ w.grownBy w' (some b) ∧ w'.heap.size = w.heap.size := by
  obtain ⟨m, rfl⟩ := Int.eq_ofNat_of_zero_le h0
  exact seal_lay pg b o k cap m w hb hk hk8 hp (by omega)

set_option maxHeartbeats 1000000 in
theorem seal_read (l : List UInt8) (b o cap : Nat) (w : World) (hl : l.length ≤ 6) (hc : ∀ i (h : i < l.length), w.cell? ⟨b, o + i, none⟩ = some (.int .u8 (l[i].toNat : Int))) :
    Calls Try.prog 71 #[.slice (some ⟨b, o, none⟩) l.length cap] w fun e w' => e = .returned (.int .i64 (leVal l)) ∧ w = w' := by
  have hcH := Lib.hid hc; clear hc
  go_enter Try.func71, Try.ntmps71
  go_wp2
  go_loop [3, 4, 5, 8] (fun s _ _ i => ∃ k : Nat, k ≤ l.length ∧ i = .int .i64 k ∧ s = .int .i64 (leVal (l.take k))) (fun _ _ _ i => l.length - (intOf i).toNat)
  case atStart => exact ⟨0, Nat.zero_le _, rfl, rfl⟩
  case round =>
    obtain ⟨k, hk, rfl, rfl⟩ := hrel
    by_cases hlt : k < l.length
    · have hcell := hcH.out k hlt
      have hc0 := l[k].toNat_lt
      go_wp2
      go_round
      case rel => exact ⟨k + 1, by omega, by go_num, by rw [read_step hlt hl]⟩
      case measure => simp [intOf]; omega
    · go_wp2
      go_ret
      exact ⟨by rw [List.take_of_length_le (by omega)]; rfl, rfl⟩
end Go.Proofs.Ytlppoimdfclbaaa
