/- Texts, plain: the library's rule and the document's are one: the whole. -/
import Derived.Test.YtembpajlllnncaaDoorBsU
set_option linter.unusedVariables false
set_option linter.unusedSimpArgs false
namespace Go.Proofs.YtembpajlllnncaaDoor

theorem lt_toNat (a b : UInt8) : (a < b) = (a.toNat < b.toNat) := propext UInt8.lt_iff_toNat_lt
theorem le_toNat (a b : UInt8) : (a ≤ b) = (a.toNat ≤ b.toNat) := propext UInt8.le_iff_toNat_le
theorem eq_toNat (a b : UInt8) : (a = b) = (a.toNat = b.toNat) := propext ⟨fun h => by rw [h], fun h => UInt8.toNat_inj.1 h⟩
theorem ite_toNat (p : Prop) [Decidable p] (a b : UInt8) : (if p then a else b).toNat = if p then a.toNat else b.toNat := by split <;> rfl
set_option maxHeartbeats 2000000 in
theorem utf8_head (c : UInt8) (r : Bs) : utf8 (c :: r) = (decide (headLen (c :: r) ≠ 0) && utf8 ((c :: r).drop (headLen (c :: r)))) := by
  obtain ⟨U, hU⟩ : ∃ U, U = utf8 := ⟨_, rfl⟩
  suffices h : utf8 (c :: r) = (decide (headLen (c :: r) ≠ 0) && U ((c :: r).drop (headLen (c :: r)))) by rw [hU] at h; exact h
  cases r with
  | nil =>
    unfold utf8 headLen
    simp only [lt_toNat, le_toNat, UInt8.reduceToNat, ← hU]
    repeat' split
    all_goals simp
  | cons x r =>
    cases r with
    | nil =>
      unfold utf8 headLen
      simp only [lt_toNat, le_toNat, UInt8.reduceToNat, cont_iff, ← hU]
      repeat' split
      all_goals simp_all
      all_goals (intros; exfalso; omega)
    | cons y r =>
      cases r with
      | nil =>
        unfold utf8 headLen
        simp only [lt_toNat, le_toNat, UInt8.reduceToNat, cont_iff, ite_toNat, eq_toNat, ← hU]
        repeat' split
        all_goals simp_all
        all_goals (intros; exfalso; omega)
      | cons z r =>
        unfold utf8 headLen
        simp only [lt_toNat, le_toNat, UInt8.reduceToNat, cont_iff, ite_toNat, eq_toNat, ← hU]
        repeat' split
        all_goals simp_all
        all_goals (intros; exfalso; omega)
theorem headLen_le : ∀ l : Bs, headLen l ≤ l.length := by
  intro l
  unfold headLen
  repeat' split
  all_goals simp
theorem utf8_valid : ∀ (n : Nat) (l : Bs), l.length ≤ n → Lib.validGoD n l = utf8 l := by
  intro n
  induction n with
  | zero =>
    intro l h
    obtain rfl : l = [] := List.eq_nil_of_length_eq_zero (by omega)
    rw [Lib.validGoD, utf8]
  | succ n ih =>
    intro l h
    cases l with
    | nil => rw [Lib.validGoD, utf8]; simp
    | cons c r =>
      obtain ⟨h1, h2⟩ := decodeL_head c r
      rw [Lib.validGoD, utf8_head, if_neg (by simp)]
      by_cases h0 : headLen (c :: r) = 0
      · rw [h1 h0, h0]; simp
      · obtain ⟨h3, h4⟩ := h2 h0
        rw [if_neg h4, h3, ih _ (by
          rw [List.length_drop]
          have : 0 < headLen (c :: r) := Nat.pos_of_ne_zero h0
          omega)]
        simp [h0]
theorem utf8_validD (l : Bs) : Lib.validD l = utf8 l := utf8_valid l.length l (Nat.le_refl _)
end Go.Proofs.YtembpajlllnncaaDoor
