/- AccumLong, plain: lists and sets of bytes. -/
import Derived.Test.YtembpajlllnncaaDoorAcCc
import Derived.Test.YtembpajlllnncaaDoorAcJ
set_option linter.unusedVariables false
set_option linter.unusedSimpArgs false
namespace Go.Proofs.YtembpajlllnncaaDoor
open Go.RowKit

def bytesV (b : Bs) : Val := .mk 8 0 [] b [] []
/-- The bytes of a round. -/
def bsOf (m q : Nat) : Bs := UInt8.ofNat q :: 1 :: List.replicate (m - 2) 0
theorem bsOf_len {m q : Nat} (hm : 2 ≤ m) : (bsOf m q).length = m := by simp [bsOf]; omega
theorem itoa0_len : (itoa 0).length = 1 := by unfold itoa; simp
theorem ownV_bytes (b : Bs) : ownV (listV [bytesV b]) = if b.length + 20 ≤ 65536 then (b.length : Int) + 13 else -7 := by
  have h1 : encV (listV [bytesV b]) = wrapDoc (encLs 0 [bytesV b]) := by
    unfold listV
    rw [encV, if_neg (by omega), if_neg (by omega), if_neg (by omega), if_neg (by omega), if_neg (by omega), if_neg (by omega), if_pos rfl]
  have h2 : encV (bytesV b) = layI 4 b.length ++ (0 :: b) := by
    unfold bytesV
    rw [encV, if_neg (by omega), if_neg (by omega), if_neg (by omega), if_neg (by omega), if_neg (by omega), if_neg (by omega), if_neg (by omega), if_pos rfl]
  have h4 : (layI 4 (b.length : Int)).length = 4 := by have := leBytes_length; simp [layI, leBytes_length]
  have h3 : (encLs 0 [bytesV b]).length = b.length + 8 := by
    simp only [encLs, List.length_cons, List.length_append, List.length_nil, h2, h4, itoa0_len]; omega
  have hw : (wrapDoc (encFs [(([] : Bs), listV [bytesV b])])).length = b.length + 20 := by
    rw [wrapDoc_length]
    simp only [encFs, List.length_cons, List.length_append, List.length_nil, h1, wrapDoc_length, h3]; omega
  have hok : okFs 1 [] [(([] : Bs), listV [bytesV b])] = true := by
    simp [okFs, okV, okLs, listV, bytesV, nameOk, utf8, Val.plain, codeOf]
  unfold ownV sizeOf_ okDoc
  simp only [Val.f, hw, hok, Val.kind]
  have hp : (Val.mk 6 0 [] [] [(([] : Bs), listV [bytesV b])] []).plain = true := by simp [Val.plain]
  rw [hp]
  by_cases h : b.length + 20 ≤ 65536
  · simp [h]; omega
  · simp [h]
theorem itoa_two {n : Nat} (h : n < 100) : (itoa n).length = if n ≥ 10 then 2 else 1 := by
  by_cases h10 : n ≥ 10
  · rw [if_pos h10]
    unfold itoa
    rw [dif_neg (by omega)]
    have : (itoa (n / 10)).length = 1 := by unfold itoa; rw [dif_pos (by omega)]; rfl
    simp [this]
  · rw [if_neg h10]
    unfold itoa
    rw [dif_pos (by omega)]; rfl
/-- What bytes add to a list. -/
def moreB (m n : Nat) : Nat := 2 + (if n ≥ 10 then 2 else 1) + 5 + m
/-- Bytes are pushed: they go in, or they are too long. -/
theorem push_bytes {st : ASt} {l : List Val} {b : Bs} (hv : st.v = listV l) (hn : l.length < 100) (hs : 5 ≤ st.size) :
    pushA st (bytesV b) = if st.size + 7 + moreB b.length l.length ≤ 65536 then (0, { st with v := listV (l ++ [bytesV b]), size := st.size + moreB b.length l.length }) else (3, st) := by
  have hvl : st.v.l = l := by rw [hv]; rfl
  have hD := itoa_two hn
  have hDr : 1 ≤ (itoa l.length).length := by rw [hD]; split <;> omega
  unfold pushA
  rw [hvl, if_neg (by simp [bytesV, Val.kind])]
  have ho := ownV_bytes b
  have hm : (moreB b.length l.length : Int) = b.length + 7 + (itoa l.length).length := by unfold moreB; rw [hD]; split <;> (push_cast; omega)
  by_cases h20 : b.length + 20 ≤ 65536
  · rw [if_pos h20] at ho
    have hmv : moreV (bytesV b) l.length = moreB b.length l.length := by unfold moreV; rw [ho, hm]; omega
    rw [if_neg (by omega), hmv]
    by_cases hf : st.size + 7 + (moreB b.length l.length : Int) ≤ 65536
    · rw [if_neg (by omega), if_pos hf]
    · rw [if_pos (by omega), if_neg hf]
  · rw [if_neg h20] at ho
    rw [if_pos (by omega), if_neg (by omega)]
theorem cmpB_first {a b : UInt8} {r s : Bs} (h : a ≠ b) : cmpB (a :: r) (b :: s) ≠ 0 := by
  rw [cmpB]
  by_cases h1 : a < b
  · rw [if_pos h1]; decide
  · rw [if_neg h1]
    have h2 : b < a := by
      rcases Nat.lt_trichotomy a.toNat b.toNat with h3 | h3 | h3
      · exact absurd (UInt8.lt_iff_toNat_lt.2 h3) h1
      · exact absurd (UInt8.toNat_inj.1 h3) h
      · exact UInt8.lt_iff_toNat_lt.2 h3
    rw [if_pos h2]; decide
theorem bytes_other {m q i : Nat} (hm : 2 ≤ m) (hq : q < i) (hi : i < 256) : cmpV (bytesV (bsOf m q)) (bytesV (bsOf m i)) ≠ 0 := by
  have h1 : cmpV (bytesV (bsOf m q)) (bytesV (bsOf m i)) = cmpB (bsOf m q) (bsOf m i) := by
    simp [cmpV, bytesV, sgnI_self, orI, Val.kind, Val.b, bsOf_len hm]
  rw [h1]
  refine cmpB_first (fun e => ?_)
  have := congrArg UInt8.toNat e
  simp at this
  omega
end Go.Proofs.YtembpajlllnncaaDoor
