/- seal: may, Room, Sum: what they compute. -/
import Derived.Test.YtlppoimdfclbaaaProg
import Derived.Test.YtlppoimdfclbaaaBase
set_option linter.unusedVariables false
set_option linter.unusedSimpArgs false
namespace Go.Proofs.Ytlppoimdfclbaaa
open Go.RowKit

def ValidPage (n : Nat) : Prop := n = 64 ∨ n = 128 ∨ n = 256 ∨ n = 512 ∨ n = 1024 ∨ n = 2048 ∨ n = 4096
theorem ValidPage.lo {n : Nat} (h : ValidPage n) : 64 ≤ n := by unfold ValidPage at h; omega
theorem ValidPage.hi {n : Nat} (h : ValidPage n) : n ≤ 4096 := by unfold ValidPage at h; omega

theorem seal_may (n : Nat) (w : World) (h : ValidPage n) :
    Calls Try.prog 49 #[.int .i64 n] w fun e w' => e = .returned (.bool true) ∧ w = w' := by
  rcases h with rfl | rfl | rfl | rfl | rfl | rfl | rfl
  all_goals
    go_enter Try.func49, Try.ntmps49
    go_wp2
    go_ret
    exact ⟨rfl, rfl⟩

theorem seal_room (n : Nat) (w : World) (h : ValidPage n) :
    Calls Try.prog 33 #[.int .i64 n] w fun e w' => e = .returned (.int .i64 ((n : Int) - 10)) ∧ w = w' := by
  have h0 := h.lo
  have h1 := h.hi
  go_enter Try.func33, Try.ntmps33
  go_wp2_with (go_at_call 49; refine (seal_may n _ h).mono ?_; rintro e w' ⟨rfl, rfl⟩)
  go_ret
  exact ⟨rfl, rfl⟩

/-! the sum -/
def crcBit (s : Nat) : Nat := if s % 2 = 1 then (s / 2) ^^^ 2197175160 else s / 2
def crcBits : Nat → Nat → Nat
  | 0, s => s
  | n + 1, s => crcBits n (crcBit s)
def crcByte (s c : Nat) : Nat := crcBits 8 (s ^^^ c)
def crcRaw (s : Nat) (l : List UInt8) : Nat := l.foldl (fun s c => crcByte s c.toNat) s
def crcSum (l : List UInt8) : Nat := 4294967295 - crcRaw 4294967295 l

theorem crcBit_lt {s : Nat} (h : s < 4294967296) : crcBit s < 4294967296 := by
  unfold crcBit
  split
  · exact Nat.xor_lt_two_pow (n := 32) (by omega) (by omega)
  · omega
theorem crcBits_lt (n : Nat) : ∀ {s : Nat}, s < 4294967296 → crcBits n s < 4294967296 := by
  induction n with
  | zero => intro s h; exact h
  | succ n ih => intro s h; exact ih (crcBit_lt h)
theorem crcBits_succ (n : Nat) : ∀ s, crcBits (n + 1) s = crcBit (crcBits n s) := by
  induction n with
  | zero => intro s; rfl
  | succ n ih => intro s; rw [crcBits, ih]; rfl
theorem crcByte_lt {s c : Nat} (h : s < 4294967296) (hc : c < 256) : crcByte s c < 4294967296 := crcBits_lt 8 (Nat.xor_lt_two_pow (n := 32) (by omega) (by omega))
theorem crcRaw_lt (l : List UInt8) : ∀ {s : Nat}, s < 4294967296 → crcRaw s l < 4294967296 := by
  induction l with
  | nil => intro s h; exact h
  | cons c l ih => intro s h; exact ih (crcByte_lt h (by have := c.toNat_lt; omega))
theorem crcRaw_snoc (s : Nat) (l : List UInt8) (c : UInt8) : crcRaw s (l ++ [c]) = crcByte (crcRaw s l) c.toNat := by simp [crcRaw]
theorem crcSum_lt (l : List UInt8) : crcSum l < 4294967296 := by unfold crcSum; omega

theorem xor_ones (x : Nat) (h : x < 4294967296) : 4294967295 ^^^ x = 4294967295 - x := by
  have h1 : (~~~ (BitVec.ofNat 32 x)).toNat = 2 ^ 32 - 1 - (BitVec.ofNat 32 x).toNat := BitVec.toNat_not
  rw [BitVec.not_def] at h1
  simp only [BitVec.toNat_xor, BitVec.toNat_allOnes, BitVec.toNat_ofNat] at h1
  rw [Nat.mod_eq_of_lt (by omega)] at h1
  simpa using h1

set_option maxHeartbeats 1000000 in
theorem seal_sum (l : List UInt8) (b o cap : Nat) (w : World) (hl : l.length ≤ 1000000000) (hc : ∀ i (h : i < l.length), w.cell? ⟨b, o + i, none⟩ = some (.int .u8 (l[i].toNat : Int))) :
    Calls Try.prog 59 #[.slice (some ⟨b, o, none⟩) l.length cap] w fun e w' => e = .returned (.int .u32 (crcSum l)) ∧ w = w' := by
  have hcH := Lib.hid hc; clear hc
  go_enter Try.func59, Try.ntmps59
  go_wp2
  go_loop [3, 9] (fun s i => ∃ k : Nat, k ≤ l.length ∧ i = .int .i64 k ∧ s = .int .u32 (crcRaw 4294967295 (l.take k))) (fun _ i => l.length - (intOf i).toNat)
  case atStart => exact ⟨0, Nat.zero_le _, rfl, rfl⟩
  case round =>
    obtain ⟨k, hk, rfl, rfl⟩ := hrel
    by_cases hlt : k < l.length
    · have hcell := hcH.out k hlt
      have hs0 : crcRaw 4294967295 (l.take k) < 4294967296 := crcRaw_lt _ (by omega)
      have hc0 := l[k].toNat_lt
      have hsn : crcRaw 4294967295 (l.take (k + 1)) = crcByte (crcRaw 4294967295 (l.take k)) l[k].toNat := by
        rw [List.take_succ_eq_append_getElem hlt, crcRaw_snoc]
      generalize crcRaw 4294967295 (l.take k) = s0 at *
      generalize l[k].toNat = c0 at *
      have hsnH := Lib.hid hsn; clear hsn
      go_wp2
      rw [u32_xor_nat s0 c0 hs0 (by omega)]
      have hX : s0 ^^^ c0 < 4294967296 := Nat.xor_lt_two_pow (n := 32) (by omega) (by omega)
      unfold crcByte at hsnH
      generalize s0 ^^^ c0 = X at *
      go_loop [3, 6, 17] (fun s _ j => ∃ m : Nat, m ≤ 8 ∧ j = .int .i64 m ∧ s = .int .u32 (crcBits m X)) (fun _ _ j => 8 - (intOf j).toNat)
      case atStart => exact ⟨0, by omega, rfl, rfl⟩
      case round =>
        obtain ⟨m, hm, rfl, rfl⟩ := hrel
        by_cases hlt8 : m < 8
        · have hy := crcBits_lt m hX
          have hys := crcBits_succ m X
          have hysH := Lib.hid hys; clear hys
          generalize crcBits m X = y at *
          go_wp2
          · have ht : (bits .and .u32 (y : Int) 1 == 1) = true := by assumption
            have he := u32_and_nat y 1 hy (by omega)
            rw [Nat.and_comm, nat_mask1'] at he
            have ht' : y % 2 = 1 := by
              rw [show ((1 : Nat) : Int) = 1 from rfl] at he
              rw [he] at ht; have := beq_iff_eq.1 ht; omega
            have hv : bits .xor .u32 ((y : Int) / 2) 2197175160 = ((crcBit y : Nat) : Int) := by
              have := u32_xor_nat (y / 2) 2197175160 (by omega) (by omega)
              unfold crcBit; rw [if_pos ht', ← this]; rfl
            go_round
            case rel => exact ⟨m + 1, by omega, by go_num, by rw [hv, hysH.out]⟩
            case measure => simp [intOf]; omega
          · have ht : (bits .and .u32 (y : Int) 1 == 1) = false := by assumption
            have he := u32_and_nat y 1 hy (by omega)
            rw [Nat.and_comm, nat_mask1'] at he
            have ht' : ¬ y % 2 = 1 := by
              rw [show ((1 : Nat) : Int) = 1 from rfl] at he
              rw [he] at ht; intro h; rw [h] at ht; simp at ht
            have hv : (y : Int) / 2 = ((crcBit y : Nat) : Int) := by
              unfold crcBit; rw [if_neg ht']; rfl
            go_round
            case rel => exact ⟨m + 1, by omega, by go_num, by rw [hv, hysH.out]⟩
            case measure => simp [intOf]; omega
        · obtain rfl : m = 8 := by omega
          go_wp2
          go_round
          case rel => exact ⟨k + 1, by omega, by go_num, by rw [hsnH.out]⟩
          case measure => simp [intOf]; omega
    · go_wp2
      go_ret
      refine ⟨?_, rfl⟩
      have hs0 : crcRaw 4294967295 (l.take k) < 4294967296 := crcRaw_lt _ (by omega)
      have he : l.take k = l := List.take_of_length_le (by omega)
      have hv : bits .xor .u32 IntKind.u32.max ((crcRaw 4294967295 (l.take k) : Nat) : Int) = ((crcSum l : Nat) : Int) := by
        have h1 := u32_xor_nat 4294967295 (crcRaw 4294967295 (l.take k)) (by omega) hs0
        rw [xor_ones _ hs0] at h1
        rw [he] at h1 ⊢
        exact h1
      show Ending.returned (.int .u32 (bits .xor .u32 IntKind.u32.max ((crcRaw 4294967295 (l.take k) : Nat) : Int))) = _
      rw [hv]
theorem seal_sum' (l : List UInt8) (n b o cap : Nat) (w : World) (hn : l.length = n) (hl : n ≤ 1000000000) (hc : ∀ i (h : i < l.length), w.cell? ⟨b, o + i, none⟩ = some (.int .u8 (l[i].toNat : Int))) :
    Calls Try.prog 59 #[.slice (some ⟨b, o, none⟩) n cap] w fun e w' => e = .returned (.int .u32 (crcSum l)) ∧ w = w' := by
  subst hn
  exact seal_sum l b o cap w hl hc
end Go.Proofs.Ytlppoimdfclbaaa
