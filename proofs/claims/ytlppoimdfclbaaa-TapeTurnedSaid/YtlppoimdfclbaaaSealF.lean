/- A page that is turned within 32 bits has another sum: plain. -/
import Derived.Test.YtlppoimdfclbaaaSealE
set_option linter.unusedVariables false
set_option linter.unusedSimpArgs false
namespace Go.Proofs.Ytlppoimdfclbaaa
open Go.RowKit

theorem xor_div2 (a b : Nat) : (a ^^^ b) / 2 = a / 2 ^^^ b / 2 := by
  apply Nat.eq_of_testBit_eq
  intro i
  simp only [Nat.testBit_div_two, Nat.testBit_xor]
theorem xor_mod2 (a b : Nat) : (a ^^^ b) % 2 = (a + b) % 2 := by
  have h := Nat.testBit_xor a b 0
  simp only [Nat.testBit_zero] at h
  rcases Nat.mod_two_eq_zero_or_one a with ha | ha <;> rcases Nat.mod_two_eq_zero_or_one b with hb | hb <;> rw [ha, hb] at h
  all_goals
    rcases Nat.mod_two_eq_zero_or_one (a ^^^ b) with hx | hx <;> rw [hx] at h ⊢
    all_goals first | (exfalso; revert h; decide) | omega
theorem crcBit_xor (a b : Nat) : crcBit (a ^^^ b) = crcBit a ^^^ crcBit b := by
  unfold crcBit
  rw [xor_mod2, xor_div2]
  generalize 2197175160 = k
  by_cases h1 : a % 2 = 1 <;> by_cases h2 : b % 2 = 1
  · rw [if_neg (by omega), if_pos h1, if_pos h2]
    rw [Nat.xor_assoc, ← Nat.xor_assoc k, Nat.xor_comm k (b / 2), Nat.xor_assoc (b / 2), Nat.xor_self, Nat.xor_zero]
  · rw [if_pos (by omega), if_pos h1, if_neg h2, Nat.xor_assoc, Nat.xor_comm (b / 2), Nat.xor_assoc]
  · rw [if_pos (by omega), if_neg h1, if_pos h2, Nat.xor_assoc]
  · rw [if_neg (by omega), if_neg h1, if_neg h2]
theorem crcBits_xor (n : Nat) : ∀ a b, crcBits n (a ^^^ b) = crcBits n a ^^^ crcBits n b := by
  induction n with
  | zero => intro a b; rfl
  | succ n ih => intro a b; simp only [crcBits]; rw [crcBit_xor, ih]
theorem crcBit_two (y : Nat) : crcBit (2 * y) = y := by unfold crcBit; rw [if_neg (by omega)]; omega
theorem crcBits_pow (n : Nat) : ∀ y, crcBits n (2 ^ n * y) = y := by
  induction n with
  | zero => intro y; simp [crcBits]
  | succ n ih =>
    intro y
    have e : 2 ^ (n + 1) * y = 2 * (2 ^ n * y) := by rw [Nat.pow_succ, Nat.mul_comm (2 ^ n) 2, Nat.mul_assoc]
    rw [crcBits, e, crcBit_two, ih]
theorem crcBits_add (m : Nat) : ∀ n s, crcBits (m + n) s = crcBits n (crcBits m s) := by
  induction m with
  | zero => intro n s; rw [Nat.zero_add]; rfl
  | succ m ih => intro n s; rw [show m + 1 + n = (m + n) + 1 by omega]; simp only [crcBits]; rw [ih]
theorem crcBits_zero (n : Nat) : crcBits n 0 = 0 := by
  induction n with
  | zero => rfl
  | succ n ih => exact ih

theorem byte_add {c v : Nat} (h : c < 256) : c + 256 * v = c ^^^ 256 * v := by
  apply Nat.eq_of_testBit_eq
  intro i
  have e : c + 256 * v = 2 ^ 8 * v + c := by omega
  have e2 : 256 * v = 2 ^ 8 * v := by omega
  rw [e, Nat.testBit_two_pow_mul_add v (by omega : c < 2 ^ 8), Nat.testBit_xor, e2, Nat.testBit_two_pow_mul]
  by_cases hi : i < 8
  · simp [hi, Nat.not_le.2 hi]
  · have : c.testBit i = false := Nat.testBit_lt_two_pow (Nat.lt_of_lt_of_le (by omega : c < 2 ^ 8) (Nat.pow_le_pow_right (by omega) (by omega)))
    simp [hi, this, Nat.le_of_not_lt hi]
theorem leVal_cons (c : UInt8) (l : List UInt8) : leVal (c :: l) = c.toNat ^^^ 256 * leVal l := by
  rw [leVal]; exact byte_add c.toNat_lt

theorem crcRaw_val : ∀ (l : List UInt8) (s : Nat), crcRaw s l = crcBits (8 * l.length) (s ^^^ leVal l)
  | [], s => by simp [crcRaw, leVal, crcBits]
  | c :: l, s => by
    have h := crcRaw_val l (crcByte s c.toNat)
    have e : crcRaw s (c :: l) = crcRaw (crcByte s c.toNat) l := rfl
    rw [e, h, List.length_cons, leVal_cons, show 8 * (l.length + 1) = 8 + 8 * l.length by omega, crcBits_add]
    congr 1
    unfold crcByte
    rw [← Nat.xor_assoc, crcBits_xor 8 (s ^^^ c.toNat)]
    congr 1
    rw [show 256 * leVal l = 2 ^ 8 * leVal l by omega, crcBits_pow]
theorem crcRaw_append (a b : List UInt8) (s : Nat) : crcRaw s (a ++ b) = crcRaw (crcRaw s a) b := by simp [crcRaw]

/-- A page's sum is right just if all of it comes to one number. -/
theorem sum_all {pg : List UInt8} (h : 64 ≤ pg.length) : sumSaid pg = sumIs pg ↔ crcRaw 4294967295 pg = crcBits 32 4294967295 := by
  unfold sumSaid sumIs crcSum
  have e : pg = pg.take (pg.length - 4) ++ pg.drop (pg.length - 4) := (List.take_append_drop _ _).symm
  obtain ⟨a, ha⟩ : ∃ a, a = pg.take (pg.length - 4) := ⟨_, rfl⟩
  obtain ⟨b, hb⟩ : ∃ b, b = pg.drop (pg.length - 4) := ⟨_, rfl⟩
  have hbl : b.length = 4 := by rw [hb, List.length_drop]; omega
  rw [List.drop_zero, ← ha, ← hb, List.take_of_length_le (by omega)]
  rw [← ha, ← hb] at e
  rw [e, crcRaw_append, crcRaw_val b, hbl]
  have hs := crcRaw_lt a (s := 4294967295) (by omega)
  generalize crcRaw 4294967295 a = s at hs ⊢
  have hv := leVal_lt b
  rw [hbl] at hv
  have hv2 : leVal b < 4294967296 := by omega
  generalize leVal b = v at hv2 ⊢
  rw [← xor_ones s hs]
  constructor
  · rintro rfl
    rw [Nat.xor_comm 4294967295 s, ← Nat.xor_assoc, Nat.xor_self, Nat.zero_xor]
  · intro h1
    have h2 := crcBits_inj 32 (Nat.xor_lt_two_pow (n := 32) (by omega) (by omega)) (by omega) h1
    rw [← h2, Nat.xor_comm s v, Nat.xor_assoc, Nat.xor_self, Nat.xor_zero]

theorem window_sum {pg pg' : List UInt8} {m bit : Nat} (h : 64 ≤ pg.length) (hl : pg'.length = pg.length) (hm : m < 4294967296) (hm0 : m ≠ 0) (hb : bit ≤ 8 * pg.length) (hv : leVal pg' = leVal pg ^^^ 2 ^ bit * m) (hs : sumSaid pg = sumIs pg) : sumSaid pg' ≠ sumIs pg' := by
  intro hs'
  rw [sum_all h, crcRaw_val] at hs
  rw [sum_all (by omega), crcRaw_val, hv, hl, ← Nat.xor_assoc, crcBits_xor, hs] at hs'
  have h0 : crcBits (8 * pg.length) (2 ^ bit * m) = 0 := xor_cancel (by rw [hs', Nat.xor_zero])
  obtain ⟨k, hk⟩ : ∃ k, 8 * pg.length = bit + k := ⟨8 * pg.length - bit, by omega⟩
  rw [hk, crcBits_add, crcBits_pow] at h0
  exact hm0 (crcBits_inj k hm (by omega) (h0.trans (crcBits_zero k).symm))

/-- A page behind so many steps of Turn. -/
def turnStep (l : List UInt8) (bit m i : Nat) : List UInt8 := l.set ((bit + i) / 8) (l.getD ((bit + i) / 8) 0 ^^^ UInt8.ofNat ((m / 2 ^ i % 2) * 2 ^ ((bit + i) % 8)))
def turnTo (pg : List UInt8) (bit m : Nat) : Nat → List UInt8
  | 0 => pg
  | i + 1 => turnStep (turnTo pg bit m i) bit m i
theorem turnTo_length (pg : List UInt8) (bit m : Nat) : ∀ i, (turnTo pg bit m i).length = pg.length
  | 0 => rfl
  | i + 1 => by simp [turnTo, turnStep, turnTo_length pg bit m i]
theorem mul_xor (k : Nat) : ∀ a b, 2 ^ k * (a ^^^ b) = 2 ^ k * a ^^^ 2 ^ k * b := by
  intro a b
  apply Nat.eq_of_testBit_eq
  intro i
  simp only [Nat.testBit_xor, Nat.testBit_two_pow_mul]
  cases decide (i ≥ k) <;> simp
theorem leVal_setXor : ∀ (l : List UInt8) (k : Nat) (d : UInt8), k < l.length → leVal (l.set k (l.getD k 0 ^^^ d)) = leVal l ^^^ 2 ^ (8 * k) * d.toNat
  | c :: l, 0, d, _ => by
    simp only [List.set_cons_zero, List.getD_cons_zero, leVal_cons, UInt8.toNat_xor, Nat.mul_zero, Nat.pow_zero, Nat.one_mul]
    rw [Nat.xor_assoc, Nat.xor_comm d.toNat, Nat.xor_assoc]
  | c :: l, k + 1, d, h => by
    simp only [List.set_cons_succ, List.getD_cons_succ, leVal_cons]
    rw [leVal_setXor l k d (by simpa using h), show (256 : Nat) = 2 ^ 8 from rfl, mul_xor, ← Nat.xor_assoc]
    congr 1
    rw [← Nat.mul_assoc, ← Nat.pow_add, show 8 + 8 * k = 8 * (k + 1) by omega]
theorem turnTo_val (pg : List UInt8) (bit m : Nat) : ∀ i, bit + i ≤ 8 * pg.length → leVal (turnTo pg bit m i) = leVal pg ^^^ 2 ^ bit * (m % 2 ^ i)
  | 0, _ => by simp [turnTo, Nat.mod_one]
  | i + 1, h => by
    have ih := turnTo_val pg bit m i (by omega)
    have hl := turnTo_length pg bit m i
    rw [turnTo, turnStep, leVal_setXor _ ((bit + i) / 8) _ (by rw [hl]; omega), ih, Nat.xor_assoc]
    congr 1
    have hlt : m / 2 ^ i % 2 * 2 ^ ((bit + i) % 8) < 256 := by
      have h1 : 2 ^ ((bit + i) % 8) ≤ 2 ^ 7 := Nat.pow_le_pow_right (by omega) (by omega)
      have h2 : m / 2 ^ i % 2 ≤ 1 := by omega
      have := Nat.mul_le_mul h2 h1
      omega
    rw [UInt8.toNat_ofNat', Nat.mod_eq_of_lt (show m / 2 ^ i % 2 * 2 ^ ((bit + i) % 8) < 2 ^ 8 by omega)]
    have e1 : 2 ^ (8 * ((bit + i) / 8)) * (m / 2 ^ i % 2 * 2 ^ ((bit + i) % 8)) = 2 ^ bit * (2 ^ i * (m / 2 ^ i % 2)) := by
      rw [← Nat.mul_assoc (2 ^ bit), ← Nat.pow_add, Nat.mul_comm (m / 2 ^ i % 2), ← Nat.mul_assoc, ← Nat.pow_add]
      congr 2
      omega
    rw [e1, ← mul_xor]
    congr 1
    have e2 : m % 2 ^ (i + 1) = 2 ^ i * (m / 2 ^ i % 2) + m % 2 ^ i := by rw [Nat.pow_succ, Nat.mod_mul]; omega
    rw [e2]
    apply Nat.eq_of_testBit_eq
    intro j
    have hlt2 : m % 2 ^ i < 2 ^ i := Nat.mod_lt _ (Nat.two_pow_pos i)
    rw [Nat.testBit_two_pow_mul_add _ hlt2, Nat.testBit_xor, Nat.testBit_two_pow_mul]
    by_cases hj : j < i
    · simp [hj, Nat.not_le.2 hj]
    · have : (m % 2 ^ i).testBit j = false := Nat.testBit_lt_two_pow (Nat.lt_of_lt_of_le hlt2 (Nat.pow_le_pow_right (by omega) (by omega)))
      simp [hj, this, Nat.le_of_not_lt hj]

theorem turned_sum {pg : List UInt8} {m bit : Nat} (h : 64 ≤ pg.length) (hm : m < 4294967296) (hm0 : m ≠ 0) (hb : bit + 32 ≤ 8 * pg.length) (hs : sumSaid pg = sumIs pg) : sumSaid (turnTo pg bit m 32) ≠ sumIs (turnTo pg bit m 32) :=
  window_sum (bit := bit) h (turnTo_length _ _ _ _) hm hm0 (by omega) (by rw [turnTo_val _ _ _ _ hb, Nat.mod_eq_of_lt (show m < 2 ^ 32 by omega)]) hs
end Go.Proofs.Ytlppoimdfclbaaa
