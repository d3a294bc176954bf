/- The reference: code, digits, num. -/
import Derived.Test.YtbkmnhogfegmcaaDoorBsP1
import Derived.Test.YtbkmnhogfegmcaaDoorBsK1
set_option linter.unusedVariables false
set_option linter.unusedSimpArgs false
namespace Go.Proofs.YtbkmnhogfegmcaaDoor
open Go.RowKit

theorem strOf_app2 (l m : Bs) : strOf l ++ strOf m = strOf (l ++ m) := by
  unfold strOf
  apply ByteArray.ext
  simp
set_option maxRecDepth 100000 in
set_option maxHeartbeats 1000000 in
theorem ref_code (k : Int) (w : World) : Calls Tryd.prog 90 #[.int .i64 k] w fun e w' => e = .returned (.int .u8 ((codeOf k).toNat : Int)) ∧ w = w' := by
  unfold codeOf
  by_cases h1 : k = 1
  · subst h1; go_enter Tryd.func90, Tryd.ntmps90; go_wp2; go_ret; exact ⟨rfl, rfl⟩
  by_cases h2 : k = 2
  · subst h2; go_enter Tryd.func90, Tryd.ntmps90; go_wp2; go_ret; exact ⟨rfl, rfl⟩
  by_cases h3 : k = 3
  · subst h3; go_enter Tryd.func90, Tryd.ntmps90; go_wp2; go_ret; exact ⟨rfl, rfl⟩
  by_cases h4 : k = 4
  · subst h4; go_enter Tryd.func90, Tryd.ntmps90; go_wp2; go_ret; exact ⟨rfl, rfl⟩
  by_cases h5 : k = 5
  · subst h5; go_enter Tryd.func90, Tryd.ntmps90; go_wp2; go_ret; exact ⟨rfl, rfl⟩
  by_cases h6 : k = 6
  · subst h6; go_enter Tryd.func90, Tryd.ntmps90; go_wp2; go_ret; exact ⟨rfl, rfl⟩
  by_cases h7 : k = 7
  · subst h7; go_enter Tryd.func90, Tryd.ntmps90; go_wp2; go_ret; exact ⟨rfl, rfl⟩
  by_cases h8 : k = 8
  · subst h8; go_enter Tryd.func90, Tryd.ntmps90; go_wp2; go_ret; exact ⟨rfl, rfl⟩
  by_cases h9 : k = 9
  · subst h9; go_enter Tryd.func90, Tryd.ntmps90; go_wp2; go_ret; exact ⟨rfl, rfl⟩
  by_cases h10 : k = 10
  · subst h10; go_enter Tryd.func90, Tryd.ntmps90; go_wp2; go_ret; exact ⟨rfl, rfl⟩
  by_cases h11 : k = 11
  · subst h11; go_enter Tryd.func90, Tryd.ntmps90; go_wp2; go_ret; exact ⟨rfl, rfl⟩
  by_cases h12 : k = 12
  · subst h12; go_enter Tryd.func90, Tryd.ntmps90; go_wp2; go_ret; exact ⟨rfl, rfl⟩
  rw [if_neg h1, if_neg h2, if_neg h3, if_neg h4, if_neg h5, if_neg h6, if_neg h7, if_neg h8, if_neg h9, if_neg h10, if_neg h11, if_neg h12]
  go_enter Tryd.func90, Tryd.ntmps90
  go_wp2
  go_ret
  exact ⟨rfl, rfl⟩

theorem wrap_u64 (n : Int) : IntKind.u64.wrap n = n % 18446744073709551616 := by simp [IntKind.wrap, IntKind.signed, IntKind.bits]
theorem ref_cell (n : Int) (j : Nat) (hj : j < 8) : IntKind.u64.wrap n / 2 ^ (8 * j) % 256 = ((UInt8.ofNat ((n % 18446744073709551616).toNat / 256 ^ j)).toNat : Int) := by
  rw [UInt8.toNat_ofNat', wrap_u64]
  have h : j = 0 ∨ j = 1 ∨ j = 2 ∨ j = 3 ∨ j = 4 ∨ j = 5 ∨ j = 6 ∨ j = 7 := by omega
  rcases h with rfl | rfl | rfl | rfl | rfl | rfl | rfl | rfl <;> simp only [Nat.mul_zero, Nat.pow_zero, Int.pow_zero, Nat.reduceMul, Nat.reducePow, Int.reducePow] <;> omega
/-- A number's bytes, new. -/
def NumP (l : Bs) (w : World) (e : Ending) (w' : World) : Prop := ∃ v, e = .returned v ∧ Row w' v l ∧ Step [] id id w w' ∧ ∀ k, v.ownBlock = some k → w.heap.size ≤ k
set_option maxRecDepth 100000 in
set_option maxHeartbeats 2000000 in
theorem ref_num (n : Int) (k : Nat) (w : World) (hk : k ≤ 8) (hn : -9223372036854775808 ≤ n ∧ n ≤ 9223372036854775807) : Calls Tryd.prog 68 #[.int .i64 n, .int .i64 k] w (NumP (layI k n) w) := by
  go_enter Tryd.func68, Tryd.ntmps68
  go_wp2_with fail
  go_loopw [5, 6] (fun bv i wr => ∃ j : Nat, i = .int .i64 j ∧ j ≤ k ∧ Row wr bv ((layI k n).take j) ∧ Grew w (.slice none 0 0) wr bv) (fun _ i _ => k - (intOf i).toNat)
  case atStart => exact ⟨0, rfl, Nat.zero_le _, by simpa using Row.nil w, Grew.refl _ _⟩
  case round =>
    obtain ⟨j, rfl, hj, hrow, hgr⟩ := hrel
    obtain ⟨ad, N, c, rfl, hN⟩ := hrow.shapeN
    have hNH := Lib.hid hN
    clear hN
    by_cases hjk : j < k
    · obtain ⟨m, hm⟩ : ∃ m, m = (layI k n).take j := ⟨_, rfl⟩
      rw [← hm] at hrow
      have hml : m.length ≤ 8 := by
        rw [hm, List.length_take, layI_length]; omega
      have hmH := Lib.hid hm
      have hrowH := Lib.hid hrow
      have hgrH := Lib.hid hgr
      have hb : m.length + 1 ≤ 1000000000 := by omega
      clear hrow hgr hm
      have hjk1 : (j : Int) < (k : Int) := by omega
      have hw8 : IntKind.i64.wrap (8 * (j : Int)) = 8 * (j : Int) := IntWalk.i64_in _ (by omega)
      go_wp2_with (at_builtin; refine wpList_put_byte rfl _ _ rfl (by rfl) hrowH.out (UInt8.ofNat ((n % 18446744073709551616).toNat / 256 ^ j)) (by rfl) (by first | rfl | exact hB1) (ref_cell n j (by omega)) hb ?_; intro ad2 N2 c2 w2 hr2 hg2; have hr2H := Lib.hid hr2; have hg2H := Lib.hid hg2; clear hr2 hg2)
      go_roundw
      case rel =>
        refine ⟨j + 1, rfl, by omega, ?_, hgrH.out.trans hg2H.out⟩
        rw [layI_take n k j hjk, ← hmH.out]; exact hr2H.out
      case measure => simp [intOf]; omega
    · have hjk1 : ¬ ((j : Int) < (k : Int)) := by omega
      obtain rfl : j = k := by omega
      have he : (layI j n).take j = layI j n := List.take_of_length_le (by rw [layI_length]; exact Nat.le_refl _)
      rw [he] at hrow
      have hrowH := Lib.hid hrow
      have hgrH := Lib.hid hgr
      clear hrow hgr he
      go_wp2_with fail
      go_ret
      exact ⟨_, rfl, hrowH.out, hgrH.out.step (T := []) (fun k hk => by cases hk), fun k hk => by rcases hgrH.out.own k hk with h | h; cases h; exact h⟩

set_option maxRecDepth 100000 in
set_option maxHeartbeats 2000000 in
theorem ref_digits (n : Nat) (w : World) (hn : n ≤ 1000000000) : Calls Tryd.prog 58 #[.int .i64 n] w fun e w' => e = .returned (.string (strOf (itoa n))) ∧ Step [] id id w w' := by
  go_enter Tryd.func58, Tryd.ntmps58
  go_wp2_with fail
  go_loopw [0, 3] (fun i s wr => ∃ (m : Nat) (t : Bs), i = .int .i64 m ∧ s = .string (strOf t) ∧ m ≤ n ∧ itoa m ++ t = itoa n ∧ Step [] id id w wr) (fun i _ _ => (intOf i).toNat)
  case atStart => exact ⟨n, [], rfl, rfl, Nat.le_refl _, by simp, Step.refl _ _ _⟩
  case round =>
    obtain ⟨m, t, rfl, rfl, hm, hit, hst⟩ := hrel
    have hitH := Lib.hid hit
    have hstH := Lib.hid hst
    obtain ⟨T, hT⟩ : ∃ T, T = strOf t := ⟨_, rfl⟩
    rw [← hT]
    have hTH := Lib.hid hT
    clear hit hst hT
    have hm0 : (0 : Int) ≤ (m : Int) := by omega
    have hmi : (m : Int) ≤ 1000000000 := by omega
    obtain ⟨D, hD⟩ : ∃ D, D = strOf [UInt8.ofNat (48 + m % 10)] := ⟨_, rfl⟩
    have hconv : (convert 22 9 (.slice (some ⟨wr.heap.size, 0, none⟩) 1 1)).run Tryd.prog (wr.alloc (.cells #[.int .u8 (48 + (m : Int) % 10)] 5)) = .ok (.string D) (wr.alloc (.cells #[.int .u8 (48 + (m : Int) % 10)] 5)) := by
      rw [hD]
      refine bs_str wr.heap.size 0 1 1 [UInt8.ofNat (48 + m % 10)] _ rfl (fun i hi => ?_)
      obtain rfl : i = 0 := by simp at hi; omega
      rw [addr_add]
      refine (cell_blk (heap_alloc_new wr _) (i := 0) rfl).trans ?_
      have hz : 48 + (m : Int) % 10 = (((UInt8.ofNat (48 + m % 10)).toNat : Nat) : Int) := by rw [UInt8.toNat_ofNat']; omega
      simp only [List.getElem_cons_zero]
      rw [← hz]
      rfl
    have hsz : ¬ 9223372036854775807 < D.size + T.size := by
      have h1 := congrArg List.length hitH.out
      have h2 := itoa_length 9 n (by omega)
      rw [List.length_append] at h1
      rw [hD, hTH.out, strOf_size, strOf_size]
      simp only [List.length_cons, List.length_nil]
      omega
    have hDH := Lib.hid hD
    clear hD
    by_cases hs : m < 10
    · have h1 : ((m : Int) / 10 == 0) = true := by rw [beq_iff_eq]; omega
      go_wp2_with fail
      go_ret
      have e : D ++ T = strOf (itoa n) := by
        rw [hDH.out, hTH.out, strOf_app2, ← hitH.out, itoa_small hs, Nat.mod_eq_of_lt hs]
      exact ⟨by rw [← e]; rfl, hstH.out.tail (Step.alloc _)⟩
    · have h1 : ((m : Int) / 10 == 0) = false := by rw [beq_eq_false_iff_ne]; omega
      go_wp2_with fail
      go_roundw
      case rel =>
        refine ⟨m / 10, [UInt8.ofNat (48 + m % 10)] ++ t, by simp, by rw [hDH.out, hTH.out, strOf_app2], by omega, ?_, hstH.out.tail (Step.alloc _)⟩
        rw [← List.append_assoc, ← itoa_big hs]; exact hitH.out
      case measure => simp [intOf]; omega
end Go.Proofs.YtbkmnhogfegmcaaDoor
