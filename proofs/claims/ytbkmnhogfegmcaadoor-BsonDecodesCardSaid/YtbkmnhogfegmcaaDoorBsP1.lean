/- The reference's texts and digits, plain. -/
import Derived.Test.YtbkmnhogfegmcaaDoorBsU2
set_option linter.unusedVariables false
set_option linter.unusedSimpArgs false
namespace Go.Proofs.YtbkmnhogfegmcaaDoor

/-- How long the text's piece at a place is; 0: there is none. -/
def stepU (c : Nat) (L j : Nat) (x y z : Nat) : Nat :=
  if c < 128 then 1
  else if c < 194 then 0
  else if c ≤ 223 then if j + 1 < L ∧ 128 ≤ x ∧ x ≤ 191 then 2 else 0
  else if c ≤ 239 then if j + 2 < L ∧ (if c = 224 then 160 else 128) ≤ x ∧ x ≤ (if c = 237 then 159 else 191) ∧ 128 ≤ y ∧ y ≤ 191 then 3 else 0
  else if c ≤ 244 then if j + 3 < L ∧ (if c = 240 then 144 else 128) ≤ x ∧ x ≤ (if c = 244 then 143 else 191) ∧ 128 ≤ y ∧ y ≤ 191 ∧ 128 ≤ z ∧ z ≤ 191 then 4 else 0
  else 0
theorem byteAt_get {l : Bs} {k : Nat} (h : k < l.length) : byteAt l k = l[k].toNat := by
  unfold byteAt
  rw [List.getD_eq_getElem?_getD, List.getElem?_eq_getElem h]; rfl
theorem headLen_at {l : Bs} {j : Nat} (hj : j < l.length) : headLen (l.drop j) = stepU (byteAt l j) l.length j (byteAt l (j + 1)) (byteAt l (j + 2)) (byteAt l (j + 3)) := by
  rw [List.drop_eq_getElem_cons hj, byteAt_get hj]
  unfold headLen stepU
  rcases Nat.lt_or_ge (j + 1) l.length with h1 | h1
  · rw [List.drop_eq_getElem_cons h1, byteAt_get h1]
    rcases Nat.lt_or_ge (j + 2) l.length with h2 | h2
    · rw [List.drop_eq_getElem_cons h2, byteAt_get h2]
      rcases Nat.lt_or_ge (j + 3) l.length with h3 | h3
      · rw [List.drop_eq_getElem_cons h3, byteAt_get h3]
        simp only [h1, h2, h3, true_and]
      · have e3 : ¬ j + 3 < l.length := by omega
        rw [show l.drop (j + 2 + 1) = [] from List.drop_of_length_le (by omega)]
        simp only [h1, h2, e3, true_and, false_and, if_false]
    · have e2 : ¬ j + 2 < l.length := by omega
      have e3 : ¬ j + 3 < l.length := by omega
      rw [show l.drop (j + 1 + 1) = [] from List.drop_of_length_le (by omega)]
      simp only [h1, e2, e3, true_and, false_and, if_false]
  · have e1 : ¬ j + 1 < l.length := by omega
    have e2 : ¬ j + 2 < l.length := by omega
    have e3 : ¬ j + 3 < l.length := by omega
    rw [show l.drop (j + 1) = [] from List.drop_of_length_le (by omega)]
    simp only [e1, e2, e3, false_and, if_false]
theorem utf8_step {l : Bs} {j n : Nat} (hj : j < l.length) (hn : stepU (byteAt l j) l.length j (byteAt l (j + 1)) (byteAt l (j + 2)) (byteAt l (j + 3)) = n) (h0 : n ≠ 0) : utf8 (l.drop j) = utf8 (l.drop (j + n)) := by
  have h1 := headLen_at hj
  rw [hn] at h1
  have e := List.drop_eq_getElem_cons hj
  have h2 := utf8_head l[j] (l.drop (j + 1))
  rw [← e, h1] at h2
  rw [h2, List.drop_drop]
  simp [h0]
theorem utf8_fail {l : Bs} {j : Nat} (hj : j < l.length) (hn : stepU (byteAt l j) l.length j (byteAt l (j + 1)) (byteAt l (j + 2)) (byteAt l (j + 3)) = 0) : utf8 (l.drop j) = false := by
  have h1 := headLen_at hj
  rw [hn] at h1
  have e := List.drop_eq_getElem_cons hj
  have h2 := utf8_head l[j] (l.drop (j + 1))
  rw [← e, h1] at h2
  rw [h2]
  simp
theorem stepU_n {c L j x y z : Nat} : j + stepU c L j x y z ≤ max L (j + 1) := by
  unfold stepU
  repeat' split
  all_goals omega
end Go.Proofs.YtbkmnhogfegmcaaDoor
