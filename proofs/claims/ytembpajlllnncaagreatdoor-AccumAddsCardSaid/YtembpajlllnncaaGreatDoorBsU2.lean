/- Texts, plain: the library's rule and the document's are one. Texts, plain: the library's rule and the document's are one: the whole. -/
import Derived.Test.YtembpajlllnncaaGreatDoorBsD
import Derived.Lib.ValidU
import Derived.Laws.Strings
set_option linter.unusedVariables false
set_option linter.unusedSimpArgs false
namespace Go.Proofs.YtembpajlllnncaaGreatDoor

def byteAt (l : Bs) (k : Nat) : Nat := (l.getD k 0).toNat
def contAt (l : Bs) (k : Nat) : Bool := decide (k < l.length) && byteAt l k / 64 == 2
theorem decodeL_list (l : Bs) : Lib.decodeL l =
  (if byteAt l 0 < 128 then (byteAt l 0, 1)
  else if byteAt l 0 / 32 == 6 && contAt l 1 then
   if byteAt l 0 % 32 * 64 + byteAt l 1 % 64 ≥ 128 then (byteAt l 0 % 32 * 64 + byteAt l 1 % 64, 2) else (65533, 1)
  else if byteAt l 0 / 16 == 14 && contAt l 1 && contAt l 2 then
   if byteAt l 0 % 16 * 4096 + byteAt l 1 % 64 * 64 + byteAt l 2 % 64 ≥ 2048 && Utf8.valid (byteAt l 0 % 16 * 4096 + byteAt l 1 % 64 * 64 + byteAt l 2 % 64) then (byteAt l 0 % 16 * 4096 + byteAt l 1 % 64 * 64 + byteAt l 2 % 64, 3) else (65533, 1)
  else if byteAt l 0 / 8 == 30 && contAt l 1 && contAt l 2 && contAt l 3 then
   if byteAt l 0 % 8 * 262144 + byteAt l 1 % 64 * 4096 + byteAt l 2 % 64 * 64 + byteAt l 3 % 64 ≥ 65536 && Utf8.valid (byteAt l 0 % 8 * 262144 + byteAt l 1 % 64 * 4096 + byteAt l 2 % 64 * 64 + byteAt l 3 % 64) then (byteAt l 0 % 8 * 262144 + byteAt l 1 % 64 * 4096 + byteAt l 2 % 64 * 64 + byteAt l 3 % 64, 4) else (65533, 1)
  else (65533, 1)) := by
 have h : ∀ k, ((ByteArray.mk l.toArray).get! k).toNat = byteAt l k := fun k => by
  unfold byteAt
  simp [ByteArray.get!, List.getD_eq_getElem?_getD]
  rfl
 have hs : (ByteArray.mk l.toArray).size = l.length := by simp [ByteArray.size]
 unfold Lib.decodeL Utf8.decode contAt
 simp only [Nat.zero_add, h, hs]
 rfl

theorem byteAt_0 (c : UInt8) (r : Bs) : byteAt (c :: r) 0 = c.toNat := rfl
theorem byteAt_s (c : UInt8) (r : Bs) (k : Nat) : byteAt (c :: r) (k + 1) = byteAt r k := by simp [byteAt]
theorem contAt_s (c : UInt8) (r : Bs) (k : Nat) : contAt (c :: r) (k + 1) = contAt r k := by simp [contAt, byteAt_s]
theorem contAt_nil (k : Nat) : contAt [] k = false := by simp [contAt]
theorem contAt_0 (c : UInt8) (r : Bs) : contAt (c :: r) 0 = decide (128 ≤ c.toNat ∧ c.toNat ≤ 191) := by
 unfold contAt
 rw [byteAt_0, Bool.eq_iff_iff]
 simp only [List.length_cons, Nat.zero_lt_succ, decide_true, Bool.true_and, beq_iff_eq, decide_eq_true_eq]
 omega
theorem valid_iff (n : Int) : Utf8.valid n = decide ((0 ≤ n ∧ n < 55296) ∨ (57344 ≤ n ∧ n ≤ 1114111)) := by
 unfold Utf8.valid
 rw [Bool.eq_iff_iff]
 simp only [Bool.or_eq_true, Bool.and_eq_true, decide_eq_true_eq]
theorem cont_iff (lo hi c : UInt8) : cont lo hi c = decide (lo.toNat ≤ c.toNat ∧ c.toNat ≤ hi.toNat) := by
 unfold cont
 rw [Bool.eq_iff_iff]
 simp only [Bool.and_eq_true, decide_eq_true_eq, UInt8.le_iff_toNat_le]

/-- A text's head: how many bytes it takes; 0: it is none. -/
def headLen : Bs → Nat
 | [] => 0
 | c :: r =>
  if c.toNat < 128 then 1
  else if c.toNat < 194 then 0
  else if c.toNat ≤ 223 then match r with
   | x :: _ => if 128 ≤ x.toNat ∧ x.toNat ≤ 191 then 2 else 0
   | _ => 0
  else if c.toNat ≤ 239 then match r with
   | x :: y :: _ => if (if c.toNat = 224 then 160 else 128) ≤ x.toNat ∧ x.toNat ≤ (if c.toNat = 237 then 159 else 191) ∧ 128 ≤ y.toNat ∧ y.toNat ≤ 191 then 3 else 0
   | _ => 0
  else if c.toNat ≤ 244 then match r with
   | x :: y :: z :: _ => if (if c.toNat = 240 then 144 else 128) ≤ x.toNat ∧ x.toNat ≤ (if c.toNat = 244 then 143 else 191) ∧ 128 ≤ y.toNat ∧ y.toNat ≤ 191 ∧ 128 ≤ z.toNat ∧ z.toNat ≤ 191 then 4 else 0
   | _ => 0
  else 0

set_option maxHeartbeats 2000000 in
theorem decodeL_head (c : UInt8) (r : Bs) : (headLen (c :: r) = 0 → Lib.decodeL (c :: r) = (65533, 1)) ∧ (headLen (c :: r) ≠ 0 → (Lib.decodeL (c :: r)).2 = headLen (c :: r) ∧ ¬ ((Lib.decodeL (c :: r)).1 = 65533 ∧ (Lib.decodeL (c :: r)).2 = 1)) := by
 have hc := c.toNat_lt
 rw [decodeL_list, byteAt_0]
 unfold headLen
 cases r with
 | nil =>
  simp only [byteAt_s, contAt_s, contAt_nil, Bool.and_false, Bool.false_and, Bool.false_eq_true, if_false]
  repeat' split
  all_goals simp
  all_goals omega
 | cons x r =>
  have hx := x.toNat_lt
  cases r with
  | nil =>
   simp only [byteAt_s, contAt_s, contAt_nil, contAt_0, byteAt_0, Bool.and_false, Bool.false_and, Bool.false_eq_true, if_false, Bool.and_eq_true, beq_iff_eq, decide_eq_true_eq]
   repeat' split
   all_goals simp
   all_goals omega
  | cons y r =>
   have hy := y.toNat_lt
   cases r with
   | nil =>
    simp only [byteAt_s, contAt_s, contAt_nil, contAt_0, byteAt_0, Bool.and_false, Bool.false_and, Bool.false_eq_true, if_false, Bool.and_eq_true, beq_iff_eq, decide_eq_true_eq, valid_iff]
    repeat' split
    all_goals simp
    all_goals omega
   | cons z r =>
    have hz := z.toNat_lt
    simp only [byteAt_s, contAt_s, contAt_nil, contAt_0, byteAt_0, Bool.and_false, Bool.false_and, Bool.false_eq_true, if_false, Bool.and_eq_true, beq_iff_eq, decide_eq_true_eq, valid_iff]
    repeat' split
    all_goals simp
    all_goals omega

end Go.Proofs.YtembpajlllnncaaGreatDoor
namespace Go.Proofs.YtembpajlllnncaaGreatDoor

theorem lt_toNat (a b : UInt8) : (a < b) = (a.toNat < b.toNat) := propext UInt8.lt_iff_toNat_lt
theorem le_toNat (a b : UInt8) : (a ≤ b) = (a.toNat ≤ b.toNat) := propext UInt8.le_iff_toNat_le
theorem eq_toNat (a b : UInt8) : (a = b) = (a.toNat = b.toNat) := propext ⟨fun h => by rw [h], fun h => UInt8.toNat_inj.1 h⟩
theorem ite_toNat (p : Prop) [Decidable p] (a b : UInt8) : (if p then a else b).toNat = if p then a.toNat else b.toNat := by split <;> rfl
set_option maxHeartbeats 2000000 in
theorem utf8_head (c : UInt8) (r : Bs) : utf8 (c :: r) = (decide (headLen (c :: r) ≠ 0) && utf8 ((c :: r).drop (headLen (c :: r)))) := by
 obtain ⟨U, hU⟩ : ∃ U, U = utf8 := ⟨_, rfl⟩
 suffices h : utf8 (c :: r) = (decide (headLen (c :: r) ≠ 0) && U ((c :: r).drop (headLen (c :: r)))) by rw [hU] at h; exact h
 cases r with
 | nil =>
  unfold utf8 headLen
  simp only [lt_toNat, le_toNat, UInt8.reduceToNat, ← hU]
  repeat' split
  all_goals simp
 | cons x r =>
  cases r with
  | nil =>
   unfold utf8 headLen
   simp only [lt_toNat, le_toNat, UInt8.reduceToNat, cont_iff, ← hU]
   repeat' split
   all_goals simp_all
   all_goals (intros; exfalso; omega)
  | cons y r =>
   cases r with
   | nil =>
    unfold utf8 headLen
    simp only [lt_toNat, le_toNat, UInt8.reduceToNat, cont_iff, ite_toNat, eq_toNat, ← hU]
    repeat' split
    all_goals simp_all
    all_goals (intros; exfalso; omega)
   | cons z r =>
    unfold utf8 headLen
    simp only [lt_toNat, le_toNat, UInt8.reduceToNat, cont_iff, ite_toNat, eq_toNat, ← hU]
    repeat' split
    all_goals simp_all
    all_goals (intros; exfalso; omega)
theorem headLen_le : ∀ l : Bs, headLen l ≤ l.length := by
 intro l
 unfold headLen
 repeat' split
 all_goals simp
theorem utf8_valid : ∀ (n : Nat) (l : Bs), l.length ≤ n → Lib.validGoD n l = utf8 l := by
 intro n
 induction n with
 | zero =>
  intro l h
  obtain rfl : l = [] := List.eq_nil_of_length_eq_zero (by omega)
  rw [Lib.validGoD, utf8]
 | succ n ih =>
  intro l h
  cases l with
  | nil => rw [Lib.validGoD, utf8]; simp
  | cons c r =>
   obtain ⟨h1, h2⟩ := decodeL_head c r
   rw [Lib.validGoD, utf8_head, if_neg (by simp)]
   by_cases h0 : headLen (c :: r) = 0
   ·rw [h1 h0, h0]; simp
   ·obtain ⟨h3, h4⟩ := h2 h0
    rw [if_neg h4, h3, ih _ (by
     rw [List.length_drop]
     have : 0 < headLen (c :: r) := Nat.pos_of_ne_zero h0
     omega)]
    simp [h0]
theorem utf8_validD (l : Bs) : Lib.validD l = utf8 l := utf8_valid l.length l (Nat.le_refl _)
end Go.Proofs.YtembpajlllnncaaGreatDoor
