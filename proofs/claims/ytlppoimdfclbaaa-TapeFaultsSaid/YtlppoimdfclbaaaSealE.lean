/- A sealed page is opened as what it was; a page that is turned has another sum: plain. -/
import Derived.Test.YtlppoimdfclbaaaSealD
set_option linter.unusedVariables false
set_option linter.unusedSimpArgs false
namespace Go.Proofs.Ytlppoimdfclbaaa
open Go.RowKit

theorem sealBody_eq {page : Nat} {next : Int} {data : List UInt8} (h : 64 ≤ page) (hd : data.length ≤ page - 10) :
    sealBody page next data = leBytes 4 (next + 1).toNat ++ (leBytes 2 data.length ++ (data ++ List.replicate (page - 6 - data.length) 0)) := by
  unfold sealBody
  have e1 : splice (List.replicate page (0 : UInt8)) 0 (leBytes 4 (next + 1).toNat) = leBytes 4 (next + 1).toNat ++ List.replicate (page - 4) 0 := by
    unfold splice; simp
  rw [e1]
  generalize ha : leBytes 4 (next + 1).toNat = a
  have hal : a.length = 4 := by rw [← ha]; simp
  generalize hb : leBytes 2 data.length = b
  have hbl : b.length = 2 := by rw [← hb]; simp
  have e2 : splice (a ++ List.replicate (page - 4) (0 : UInt8)) 4 b = (a ++ b) ++ List.replicate (page - 6) 0 := by
    unfold splice
    rw [List.take_append_of_le_length (by omega), List.take_of_length_le (by omega), List.drop_append, List.drop_of_length_le (by omega), List.drop_replicate, hal, hbl, List.nil_append]
    congr 2
  rw [e2]
  unfold splice
  have hab : (a ++ b).length = 6 := by rw [List.length_append]; omega
  rw [List.take_append_of_le_length (by omega), List.take_of_length_le (by omega), List.drop_append, List.drop_of_length_le (by omega), List.drop_replicate, hab, List.nil_append]
  simp only [List.append_assoc]
  congr 4
  congr 1
  omega

section
variable {page : Nat} {next : Int} {data : List UInt8} (h : 64 ≤ page) (hd : data.length ≤ page - 10)
include h hd

theorem sealPage_eq : sealPage page next data = (sealBody page next data).take (page - 4) ++ leBytes 4 (crcSum ((sealBody page next data).take (page - 4))) := by
  unfold sealPage splice
  rw [leBytes_length, List.drop_of_length_le (by rw [sealBody_length h hd]; omega), List.append_nil]
theorem sealPage_sum : sumSaid (sealPage page next data) = sumIs (sealPage page next data) := by
  unfold sumSaid sumIs
  rw [sealPage_length h hd, sealPage_eq h hd]
  have hl : ((sealBody page next data).take (page - 4)).length = page - 4 := by rw [List.length_take, sealBody_length h hd]; omega
  have e1 : List.drop (page - 4) ((sealBody page next data).take (page - 4) ++ leBytes 4 (crcSum ((sealBody page next data).take (page - 4)))) = leBytes 4 (crcSum ((sealBody page next data).take (page - 4))) := by
    rw [List.drop_append, List.drop_of_length_le (by omega), hl, Nat.sub_self, List.drop_zero, List.nil_append]
  have e2 : List.take (page - 4) (List.drop 0 ((sealBody page next data).take (page - 4) ++ leBytes 4 (crcSum ((sealBody page next data).take (page - 4))))) = (sealBody page next data).take (page - 4) := by
    rw [List.drop_zero, List.take_append_of_le_length (by omega), List.take_of_length_le (by omega)]
  rw [e1, e2, List.take_of_length_le (by simp), leVal_leBytes]
  exact Nat.mod_eq_of_lt (crcSum_lt _)
theorem sealPage_take : ∃ z, sealPage page next data = leBytes 4 (next + 1).toNat ++ (leBytes 2 data.length ++ (data ++ z)) := by
  rw [sealPage_eq h hd, sealBody_eq h hd]
  generalize ha : leBytes 4 (next + 1).toNat = a
  have hal : a.length = 4 := by rw [← ha]; simp
  generalize hb : leBytes 2 data.length = b
  have hbl : b.length = 2 := by rw [← hb]; simp
  generalize crcSum _ = c
  rw [List.take_append, List.take_of_length_le (by omega), List.take_append, List.take_of_length_le (by omega), List.take_append, List.take_of_length_le (by omega)]
  exact ⟨_, by simp only [List.append_assoc]; rfl⟩
theorem sealPage_next (h0 : -1 ≤ next) (h1 : next < 16384) : nextSaid (sealPage page next data) = (next + 1).toNat := by
  obtain ⟨z, hz⟩ := sealPage_take (next := next) h hd
  unfold nextSaid
  rw [hz, List.drop_zero, List.take_append_of_le_length (by simp), List.take_of_length_le (by simp), leVal_leBytes]
  exact Nat.mod_eq_of_lt (by omega)
theorem sealPage_many (h2 : page ≤ 4096) : manySaid (sealPage page next data) = data.length := by
  obtain ⟨z, hz⟩ := sealPage_take (next := next) h hd
  unfold manySaid
  rw [hz, List.drop_append, List.drop_of_length_le (by simp), List.nil_append, leBytes_length, Nat.sub_self, List.drop_zero, List.take_append_of_le_length (by simp), List.take_of_length_le (by simp), leVal_leBytes]
  exact Nat.mod_eq_of_lt (by omega)
theorem sealPage_data : ((sealPage page next data).drop 6).take data.length = data := by
  obtain ⟨z, hz⟩ := sealPage_take (next := next) h hd
  rw [hz, ← List.append_assoc, List.drop_append, List.drop_of_length_le (by simp), List.nil_append, List.length_append, leBytes_length, leBytes_length, Nat.sub_self, List.drop_zero, List.take_append_of_le_length (by simp), List.take_of_length_le (by simp)]
end

/-! the sum's bits -/
theorem crcBit_inj {s t : Nat} (hs : s < 4294967296) (ht : t < 4294967296) (h : crcBit s = crcBit t) : s = t := by
  unfold crcBit at h
  have hb : ∀ x, x < 4294967296 → ((x / 2) ^^^ 2197175160).testBit 31 = true := fun x hx => by
    rw [Nat.testBit_xor, Nat.testBit_lt_two_pow (by omega : x / 2 < 2 ^ 31)]; decide
  have hn : ∀ x, x < 4294967296 → (x / 2).testBit 31 = false := fun x hx => Nat.testBit_lt_two_pow (by omega : x / 2 < 2 ^ 31)
  split at h <;> split at h
  · have := congrArg (· ^^^ 2197175160) h
    simp only [Nat.xor_assoc, Nat.xor_self, Nat.xor_zero] at this
    omega
  · have h1 := hb s hs; rw [h, hn t ht] at h1; cases h1
  · have h1 := hb t ht; rw [← h, hn s hs] at h1; cases h1
  · omega
theorem crcBits_inj (n : Nat) : ∀ {s t : Nat}, s < 4294967296 → t < 4294967296 → crcBits n s = crcBits n t → s = t := by
  induction n with
  | zero => intro s t _ _ h; exact h
  | succ n ih => intro s t hs ht h; exact crcBit_inj hs ht (ih (crcBit_lt hs) (crcBit_lt ht) h)
theorem xor_cancel {a b c : Nat} (h : a ^^^ b = a ^^^ c) : b = c := by
  have := congrArg (a ^^^ ·) h
  simpa [← Nat.xor_assoc] using this
theorem crcByte_inj {s c d : Nat} (hs : s < 4294967296) (hc : c < 256) (hd : d < 256) (h : crcByte s c = crcByte s d) : c = d :=
  xor_cancel (crcBits_inj 8 (Nat.xor_lt_two_pow (n := 32) (by omega) (by omega)) (Nat.xor_lt_two_pow (n := 32) (by omega) (by omega)) h)
theorem crcRaw_inj : ∀ (l : List UInt8) {s t : Nat}, s < 4294967296 → t < 4294967296 → crcRaw s l = crcRaw t l → s = t
  | [], s, t, _, _, h => h
  | c :: l, s, t, hs, ht, h => by
    have hc := c.toNat_lt
    have h1 := crcRaw_inj l (crcByte_lt hs hc) (crcByte_lt ht hc) h
    have h2 := crcBits_inj 8 (Nat.xor_lt_two_pow (n := 32) (by omega) (by omega)) (Nat.xor_lt_two_pow (n := 32) (by omega) (by omega)) h1
    rw [Nat.xor_comm s, Nat.xor_comm t] at h2
    exact xor_cancel h2

/-- A page whose first bit is turned. -/
theorem flip0_sum {pg : List UInt8} (h : 64 ≤ pg.length) (hs : sumSaid pg = sumIs pg) : sumSaid (pg.set 0 (pg.headD 0 ^^^ 1)) ≠ sumIs (pg.set 0 (pg.headD 0 ^^^ 1)) := by
  cases pg with
  | nil => simp at h
  | cons c l =>
    unfold sumSaid sumIs at *
    simp only [List.headD_cons, List.set_cons_zero, List.length_cons, List.drop_zero] at *
    obtain ⟨k, hk⟩ : ∃ k, l.length + 1 - 4 = k + 1 := ⟨l.length - 4, by omega⟩
    rw [hk] at hs ⊢
    simp only [List.drop_succ_cons, List.take_succ_cons] at hs ⊢
    rw [hs]
    intro e
    unfold crcSum at e
    have l1 := crcRaw_lt (c :: l.take k) (s := 4294967295) (by omega)
    have l2 := crcRaw_lt ((c ^^^ 1) :: l.take k) (s := 4294967295) (by omega)
    have e2 : crcRaw 4294967295 (c :: l.take k) = crcRaw 4294967295 ((c ^^^ 1) :: l.take k) := by omega
    have e3 := crcRaw_inj (l.take k) (crcByte_lt (by omega) c.toNat_lt) (crcByte_lt (by omega) (c ^^^ 1).toNat_lt) e2
    have e4 := crcByte_inj (by omega) c.toNat_lt (c ^^^ 1).toNat_lt e3
    have e5 : c = c ^^^ 1 := UInt8.toNat_inj.1 e4
    have e6 := congrArg (c ^^^ ·) e5
    simp only [UInt8.xor_self, ← UInt8.xor_assoc, UInt8.zero_xor] at e6
    exact absurd e6 (by decide)
end Go.Proofs.Ytlppoimdfclbaaa
