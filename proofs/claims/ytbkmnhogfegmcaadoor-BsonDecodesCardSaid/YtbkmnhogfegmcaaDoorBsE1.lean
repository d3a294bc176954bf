/- bson: lay. -/
import Derived.Test.YtbkmnhogfegmcaaDoorBsB
import Derived.Test.YtbkmnhogfegmcaaDoorBsA
set_option linter.unusedVariables false
set_option linter.unusedSimpArgs false
namespace Go.Proofs.YtbkmnhogfegmcaaDoor
open Go.RowKit

/-- The i-th byte of a number. -/
theorem layI_byte (n : Int) (i w : Nat) (hi : i < w) : (layI w n)[i]'(by rw [layI_length]; exact hi) = UInt8.ofNat ((n % 18446744073709551616).toNat / 256 ^ i) := by
  have h : ∀ (w i n : Nat) (hi : i < w), (leBytes w n)[i]'(by rw [leBytes_length]; exact hi) = UInt8.ofNat (n / 256 ^ i) := by
    intro w
    induction w with
    | zero => intro i n hi; omega
    | succ w ih =>
      intro i n hi
      cases i with
      | zero => simp [leBytes]
      | succ i =>
        simp only [leBytes, List.getElem_cons_succ]
        rw [ih i (n / 256) (by omega), Nat.div_div_eq_div_mul, Nat.pow_succ, Nat.mul_comm 256]
  exact h w i _ hi

theorem layI_cell (n : Int) (j : Nat) (hj : j < 8) : n / 2 ^ (8 * j) % 256 = ((UInt8.ofNat ((n % 18446744073709551616).toNat / 256 ^ j)).toNat : Int) := by
  rw [UInt8.toNat_ofNat']
  have h : j = 0 ∨ j = 1 ∨ j = 2 ∨ j = 3 ∨ j = 4 ∨ j = 5 ∨ j = 6 ∨ j = 7 := by omega
  rcases h with rfl | rfl | rfl | rfl | rfl | rfl | rfl | rfl <;> simp only [Nat.mul_zero, Nat.pow_zero, Int.pow_zero, Nat.reduceMul, Nat.reducePow, Int.reducePow] <;> omega
theorem layI_take (n : Int) (k j : Nat) (hj : j < k) : (layI k n).take (j + 1) = (layI k n).take j ++ [UInt8.ofNat ((n % 18446744073709551616).toNat / 256 ^ j)] := by
  rw [List.take_add_one, List.getElem?_eq_getElem (by rw [layI_length]; exact hj), layI_byte n j k hj]; rfl

set_option maxRecDepth 100000 in
set_option maxHeartbeats 2000000 in
theorem bs_lay (v : Value) (l : Bs) (n : Int) (k : Nat) (w : World) (hk : k ≤ 8) (hl : l.length ≤ 900000000) (hn : -9223372036854775808 ≤ n ∧ n ≤ 9223372036854775807) (h : Row w v l) :
    Calls Tryd.prog 60 #[v, .int .i64 n, .int .i64 k] w fun e w' => ∃ v', e = .returned v' ∧ Row w' v' (l ++ layI k n) ∧ Grew w v w' v' := by
  have hH := Lib.hid h
  clear h
  go_enter Tryd.func60, Tryd.ntmps60
  go_wp2_with fail
  go_loopw [0, 9] (fun bv i wr => ∃ j : Nat, i = .int .i64 j ∧ j ≤ k ∧ Row wr bv (l ++ (layI k n).take j) ∧ Grew w v wr bv) (fun _ i _ => k - (intOf i).toNat)
  case atStart => exact ⟨0, rfl, Nat.zero_le _, by simpa using hH.out, Grew.refl _ _⟩
  case round =>
    obtain ⟨j, rfl, hj, hrow, hgr⟩ := hrel
    obtain ⟨ad, N, c, rfl, hN⟩ := hrow.shapeN
    have hNH := Lib.hid hN
    clear hN
    by_cases hjk : j < k
    · obtain ⟨m, hm⟩ : ∃ m, m = l ++ (layI k n).take j := ⟨_, rfl⟩
      rw [← hm] at hrow
      have hml : m.length = l.length + j := by
        rw [hm, List.length_append, List.length_take, layI_length]; omega
      have hmH := Lib.hid hm
      have hrowH := Lib.hid hrow
      have hgrH := Lib.hid hgr
      have hb : m.length + 1 ≤ 1000000000 := by omega
      have hmlH := Lib.hid hml
      clear hrow hgr hm hml
      have hjk1 : (j : Int) < (k : Int) := by omega
      go_wp2_with (at_builtin; refine wpList_put_byte rfl _ _ rfl (by rfl) hrowH.out (UInt8.ofNat ((n % 18446744073709551616).toNat / 256 ^ j)) (by rfl) (by first | rfl | exact hB1) (layI_cell n j (by omega)) hb ?_; intro ad2 N2 c2 w2 hr2 hg2; have hr2H := Lib.hid hr2; have hg2H := Lib.hid hg2; clear hr2 hg2)
      go_roundw
      case rel =>
        refine ⟨j + 1, rfl, by omega, ?_, hgrH.out.trans hg2H.out⟩
        rw [layI_take n k j hjk, ← List.append_assoc, ← hmH.out]; exact hr2H.out
      case measure => simp [intOf]; omega
    · have hjk1 : ¬ ((j : Int) < (k : Int)) := by omega
      obtain rfl : j = k := by omega
      have he : (layI j n).take j = layI j n := List.take_of_length_le (by rw [layI_length]; exact Nat.le_refl _)
      rw [he] at hrow
      obtain ⟨m, hm⟩ : ∃ m, m = l ++ layI j n := ⟨_, rfl⟩
      rw [← hm] at hrow
      have hrowH := Lib.hid hrow
      have hgrH := Lib.hid hgr
      have hmH := Lib.hid hm
      clear hrow hgr hm he
      go_wp2_with fail
      go_ret
      exact ⟨_, rfl, by rw [← hmH.out]; exact hrowH.out, hgrH.out⟩
end Go.Proofs.YtbkmnhogfegmcaaDoor
