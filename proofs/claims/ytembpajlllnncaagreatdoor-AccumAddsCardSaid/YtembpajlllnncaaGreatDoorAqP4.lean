/- Words for the reference's encoder. The reference's texts and digits, plain. The reference: code, digits, num. The reference: Utf8, NameMay. The reference: bare, NameMay. -/
import Derived.Test.YtembpajlllnncaaGreatDoorAcK1
import Derived.Test.YtembpajlllnncaaGreatDoorBsU2
set_option linter.unusedVariables false
set_option linter.unusedSimpArgs false
namespace Go.Proofs.YtembpajlllnncaaGreatDoor
open Go.RowKit

/-- The i-th byte of a number. -/
theorem layI_byte (n : Int) (i w : Nat) (hi : i < w) : (layI w n)[i]'(by rw [layI_length]; exact hi) = UInt8.ofNat ((n % 18446744073709551616).toNat / 256 ^ i) := by
 have h : ∀ (w i n : Nat) (hi : i < w), (leBytes w n)[i]'(by rw [leBytes_length]; exact hi) = UInt8.ofNat (n / 256 ^ i) := by
  intro w
  induction w with
  | zero => intro i n hi; omega
  | succ w ih =>
   intro i n hi
   cases i with
   | zero => simp [leBytes]
   | succ i =>
    simp only [leBytes, List.getElem_cons_succ]
    rw [ih i (n / 256) (by omega), Nat.div_div_eq_div_mul, Nat.pow_succ, Nat.mul_comm 256]
 exact h w i _ hi
theorem layI_take (n : Int) (k j : Nat) (hj : j < k) : (layI k n).take (j + 1) = (layI k n).take j ++ [UInt8.ofNat ((n % 18446744073709551616).toNat / 256 ^ j)] := by
 rw [List.take_add_one, List.getElem?_eq_getElem (by rw [layI_length]; exact hj), layI_byte n j k hj]; rfl
end Go.Proofs.YtembpajlllnncaaGreatDoor
namespace Go.Proofs.YtembpajlllnncaaGreatDoor

/-- How long the text's piece at a place is; 0: there is none. -/
def stepU (c : Nat) (L j : Nat) (x y z : Nat) : Nat :=
 if c < 128 then 1
 else if c < 194 then 0
 else if c ≤ 223 then if j + 1 < L ∧ 128 ≤ x ∧ x ≤ 191 then 2 else 0
 else if c ≤ 239 then if j + 2 < L ∧ (if c = 224 then 160 else 128) ≤ x ∧ x ≤ (if c = 237 then 159 else 191) ∧ 128 ≤ y ∧ y ≤ 191 then 3 else 0
 else if c ≤ 244 then if j + 3 < L ∧ (if c = 240 then 144 else 128) ≤ x ∧ x ≤ (if c = 244 then 143 else 191) ∧ 128 ≤ y ∧ y ≤ 191 ∧ 128 ≤ z ∧ z ≤ 191 then 4 else 0
 else 0
theorem byteAt_get {l : Bs} {k : Nat} (h : k < l.length) : byteAt l k = l[k].toNat := by
 unfold byteAt
 rw [List.getD_eq_getElem?_getD, List.getElem?_eq_getElem h]; rfl
theorem headLen_at {l : Bs} {j : Nat} (hj : j < l.length) : headLen (l.drop j) = stepU (byteAt l j) l.length j (byteAt l (j + 1)) (byteAt l (j + 2)) (byteAt l (j + 3)) := by
 rw [List.drop_eq_getElem_cons hj, byteAt_get hj]
 unfold headLen stepU
 rcases Nat.lt_or_ge (j + 1) l.length with h1 | h1
 ·rw [List.drop_eq_getElem_cons h1, byteAt_get h1]
  rcases Nat.lt_or_ge (j + 2) l.length with h2 | h2
  ·rw [List.drop_eq_getElem_cons h2, byteAt_get h2]
   rcases Nat.lt_or_ge (j + 3) l.length with h3 | h3
   ·rw [List.drop_eq_getElem_cons h3, byteAt_get h3]
    simp only [h1, h2, h3, true_and]
   ·have e3 : ¬ j + 3 < l.length := by omega
    rw [show l.drop (j + 2 + 1) = [] from List.drop_of_length_le (by omega)]
    simp only [h1, h2, e3, true_and, false_and, if_false]
  ·have e2 : ¬ j + 2 < l.length := by omega
   have e3 : ¬ j + 3 < l.length := by omega
   rw [show l.drop (j + 1 + 1) = [] from List.drop_of_length_le (by omega)]
   simp only [h1, e2, e3, true_and, false_and, if_false]
 ·have e1 : ¬ j + 1 < l.length := by omega
  have e2 : ¬ j + 2 < l.length := by omega
  have e3 : ¬ j + 3 < l.length := by omega
  rw [show l.drop (j + 1) = [] from List.drop_of_length_le (by omega)]
  simp only [e1, e2, e3, false_and, if_false]
theorem utf8_step {l : Bs} {j n : Nat} (hj : j < l.length) (hn : stepU (byteAt l j) l.length j (byteAt l (j + 1)) (byteAt l (j + 2)) (byteAt l (j + 3)) = n) (h0 : n ≠ 0) : utf8 (l.drop j) = utf8 (l.drop (j + n)) := by
 have h1 := headLen_at hj
 rw [hn] at h1
 have e := List.drop_eq_getElem_cons hj
 have h2 := utf8_head l[j] (l.drop (j + 1))
 rw [← e, h1] at h2
 rw [h2, List.drop_drop]
 simp [h0]
theorem utf8_fail {l : Bs} {j : Nat} (hj : j < l.length) (hn : stepU (byteAt l j) l.length j (byteAt l (j + 1)) (byteAt l (j + 2)) (byteAt l (j + 3)) = 0) : utf8 (l.drop j) = false := by
 have h1 := headLen_at hj
 rw [hn] at h1
 have e := List.drop_eq_getElem_cons hj
 have h2 := utf8_head l[j] (l.drop (j + 1))
 rw [← e, h1] at h2
 rw [h2]
 simp
theorem stepU_n {c L j x y z : Nat} : j + stepU c L j x y z ≤ max L (j + 1) := by
 unfold stepU
 repeat' split
 all_goals omega
end Go.Proofs.YtembpajlllnncaaGreatDoor
namespace Go.Proofs.YtembpajlllnncaaGreatDoor
open Go.RowKit

theorem strOf_app2 (l m : Bs) : strOf l ++ strOf m = strOf (l ++ m) := by
 unfold strOf
 apply ByteArray.ext
 simp
set_option maxRecDepth 100000 in
set_option maxHeartbeats 1000000 in
theorem ref_code (k : Int) (w : World) : Calls Tryz.prog 93 #[.int .i64 k] w fun e w' => e = .returned (.int .u8 ((codeOf k).toNat : Int)) ∧ w = w' := by
 unfold codeOf
 by_cases h1 : k = 1
 ·subst h1; go_enter Tryz.func93, Tryz.ntmps93; go_wp2; go_ret; exact ⟨rfl, rfl⟩
 by_cases h2 : k = 2
 ·subst h2; go_enter Tryz.func93, Tryz.ntmps93; go_wp2; go_ret; exact ⟨rfl, rfl⟩
 by_cases h3 : k = 3
 ·subst h3; go_enter Tryz.func93, Tryz.ntmps93; go_wp2; go_ret; exact ⟨rfl, rfl⟩
 by_cases h4 : k = 4
 ·subst h4; go_enter Tryz.func93, Tryz.ntmps93; go_wp2; go_ret; exact ⟨rfl, rfl⟩
 by_cases h5 : k = 5
 ·subst h5; go_enter Tryz.func93, Tryz.ntmps93; go_wp2; go_ret; exact ⟨rfl, rfl⟩
 by_cases h6 : k = 6
 ·subst h6; go_enter Tryz.func93, Tryz.ntmps93; go_wp2; go_ret; exact ⟨rfl, rfl⟩
 by_cases h7 : k = 7
 ·subst h7; go_enter Tryz.func93, Tryz.ntmps93; go_wp2; go_ret; exact ⟨rfl, rfl⟩
 by_cases h8 : k = 8
 ·subst h8; go_enter Tryz.func93, Tryz.ntmps93; go_wp2; go_ret; exact ⟨rfl, rfl⟩
 by_cases h9 : k = 9
 ·subst h9; go_enter Tryz.func93, Tryz.ntmps93; go_wp2; go_ret; exact ⟨rfl, rfl⟩
 by_cases h10 : k = 10
 ·subst h10; go_enter Tryz.func93, Tryz.ntmps93; go_wp2; go_ret; exact ⟨rfl, rfl⟩
 by_cases h11 : k = 11
 ·subst h11; go_enter Tryz.func93, Tryz.ntmps93; go_wp2; go_ret; exact ⟨rfl, rfl⟩
 by_cases h12 : k = 12
 ·subst h12; go_enter Tryz.func93, Tryz.ntmps93; go_wp2; go_ret; exact ⟨rfl, rfl⟩
 rw [if_neg h1, if_neg h2, if_neg h3, if_neg h4, if_neg h5, if_neg h6, if_neg h7, if_neg h8, if_neg h9, if_neg h10, if_neg h11, if_neg h12]
 go_enter Tryz.func93, Tryz.ntmps93
 go_wp2
 go_ret
 exact ⟨rfl, rfl⟩

theorem wrap_u64 (n : Int) : IntKind.u64.wrap n = n % 18446744073709551616 := by simp [IntKind.wrap, IntKind.signed, IntKind.bits]
theorem ref_cell (n : Int) (j : Nat) (hj : j < 8) : IntKind.u64.wrap n / 2 ^ (8 * j) % 256 = ((UInt8.ofNat ((n % 18446744073709551616).toNat / 256 ^ j)).toNat : Int) := by
 rw [UInt8.toNat_ofNat', wrap_u64]
 have h : j = 0 ∨ j = 1 ∨ j = 2 ∨ j = 3 ∨ j = 4 ∨ j = 5 ∨ j = 6 ∨ j = 7 := by omega
 rcases h with rfl | rfl | rfl | rfl | rfl | rfl | rfl | rfl <;> simp only [Nat.mul_zero, Nat.pow_zero, Int.pow_zero, Nat.reduceMul, Nat.reducePow, Int.reducePow] <;> omega
/-- A number's bytes, new. -/
def NumP (l : Bs) (w : World) (e : Ending) (w' : World) : Prop := ∃ v, e = .returned v ∧ Row w' v l ∧ Step [] id id w w' ∧ ∀ k, v.ownBlock = some k → w.heap.size ≤ k
set_option maxRecDepth 100000 in
set_option maxHeartbeats 2000000 in
theorem ref_num (n : Int) (k : Nat) (w : World) (hk : k ≤ 8) (hn : -9223372036854775808 ≤ n ∧ n ≤ 9223372036854775807) : Calls Tryz.prog 63 #[.int .i64 n, .int .i64 k] w (NumP (layI k n) w) := by
 go_enter Tryz.func63, Tryz.ntmps63
 go_wp2_with fail
 go_loopw [5, 6] (fun bv i wr => ∃ j : Nat, i = .int .i64 j ∧ j ≤ k ∧ Row wr bv ((layI k n).take j) ∧ Grew w (.slice none 0 0) wr bv) (fun _ i _ => k - (intOf i).toNat)
 case atStart => exact ⟨0, rfl, Nat.zero_le _, by simpa using Row.nil w, Grew.refl _ _⟩
 case round =>
  obtain ⟨j, rfl, hj, hrow, hgr⟩ := hrel
  obtain ⟨ad, N, c, rfl, hN⟩ := hrow.shapeN
  have hNH := Lib.hid hN
  clear hN
  by_cases hjk : j < k
  ·obtain ⟨m, hm⟩ : ∃ m, m = (layI k n).take j := ⟨_, rfl⟩
   rw [← hm] at hrow
   have hml : m.length ≤ 8 := by
    rw [hm, List.length_take, layI_length]; omega
   have hmH := Lib.hid hm
   have hrowH := Lib.hid hrow
   have hgrH := Lib.hid hgr
   have hb : m.length + 1 ≤ 1000000000 := by omega
   clear hrow hgr hm
   have hjk1 : (j : Int) < (k : Int) := by omega
   have hw8 : IntKind.i64.wrap (8 * (j : Int)) = 8 * (j : Int) := IntWalk.i64_in _ (by omega)
   go_wp2_with (at_builtin; refine wpList_put_byte rfl _ _ rfl (by rfl) hrowH.out (UInt8.ofNat ((n % 18446744073709551616).toNat / 256 ^ j)) (by rfl) (by first | rfl | exact hB1) (ref_cell n j (by omega)) hb ?_; intro ad2 N2 c2 w2 hr2 hg2; have hr2H := Lib.hid hr2; have hg2H := Lib.hid hg2; clear hr2 hg2)
   go_roundw
   case rel =>
    refine ⟨j + 1, rfl, by omega, ?_, hgrH.out.trans hg2H.out⟩
    rw [layI_take n k j hjk, ← hmH.out]; exact hr2H.out
   case measure => simp [intOf]; omega
  ·have hjk1 : ¬ ((j : Int) < (k : Int)) := by omega
   obtain rfl : j = k := by omega
   have he : (layI j n).take j = layI j n := List.take_of_length_le (by rw [layI_length]; exact Nat.le_refl _)
   rw [he] at hrow
   have hrowH := Lib.hid hrow
   have hgrH := Lib.hid hgr
   clear hrow hgr he
   go_wp2_with fail
   go_ret
   exact ⟨_, rfl, hrowH.out, hgrH.out.step (T := []) (fun k hk => by cases hk), fun k hk => by rcases hgrH.out.own k hk with h | h; cases h; exact h⟩

set_option maxRecDepth 100000 in
set_option maxHeartbeats 2000000 in
theorem ref_digits (n : Nat) (w : World) (hn : n ≤ 1000000000) : Calls Tryz.prog 66 #[.int .i64 n] w fun e w' => e = .returned (.string (strOf (itoa n))) ∧ Step [] id id w w' := by
 go_enter Tryz.func66, Tryz.ntmps66
 go_wp2_with fail
 go_loopw [0, 3] (fun i s wr => ∃ (m : Nat) (t : Bs), i = .int .i64 m ∧ s = .string (strOf t) ∧ m ≤ n ∧ itoa m ++ t = itoa n ∧ Step [] id id w wr) (fun i _ _ => (intOf i).toNat)
 case atStart => exact ⟨n, [], rfl, rfl, Nat.le_refl _, by simp, Step.refl _ _ _⟩
 case round =>
  obtain ⟨m, t, rfl, rfl, hm, hit, hst⟩ := hrel
  have hitH := Lib.hid hit
  have hstH := Lib.hid hst
  obtain ⟨T, hT⟩ : ∃ T, T = strOf t := ⟨_, rfl⟩
  rw [← hT]
  have hTH := Lib.hid hT
  clear hit hst hT
  have hm0 : (0 : Int) ≤ (m : Int) := by omega
  have hmi : (m : Int) ≤ 1000000000 := by omega
  obtain ⟨D, hD⟩ : ∃ D, D = strOf [UInt8.ofNat (48 + m % 10)] := ⟨_, rfl⟩
  have hconv : (convert 32 9 (.slice (some ⟨wr.heap.size, 0, none⟩) 1 1)).run Tryz.prog (wr.alloc (.cells #[.int .u8 (48 + (m : Int) % 10)] 5)) = .ok (.string D) (wr.alloc (.cells #[.int .u8 (48 + (m : Int) % 10)] 5)) := by
   rw [hD]
   refine bs_str wr.heap.size 0 1 1 [UInt8.ofNat (48 + m % 10)] _ rfl (fun i hi => ?_)
   obtain rfl : i = 0 := by simp at hi; omega
   rw [addr_add]
   refine (cell_blk (heap_alloc_new wr _) (i := 0) rfl).trans ?_
   have hz : 48 + (m : Int) % 10 = (((UInt8.ofNat (48 + m % 10)).toNat : Nat) : Int) := by rw [UInt8.toNat_ofNat']; omega
   simp only [List.getElem_cons_zero]
   rw [← hz]
   rfl
  have hsz : ¬ 9223372036854775807 < D.size + T.size := by
   have h1 := congrArg List.length hitH.out
   have h2 := itoa_length 9 n (by omega)
   rw [List.length_append] at h1
   rw [hD, hTH.out, strOf_size, strOf_size]
   simp only [List.length_cons, List.length_nil]
   omega
  have hDH := Lib.hid hD
  clear hD
  by_cases hs : m < 10
  ·have h1 : ((m : Int) / 10 == 0) = true := by rw [beq_iff_eq]; omega
   go_wp2_with fail
   go_ret
   have e : D ++ T = strOf (itoa n) := by
    rw [hDH.out, hTH.out, strOf_app2, ← hitH.out, itoa_small hs, Nat.mod_eq_of_lt hs]
   exact ⟨by rw [← e]; rfl, hstH.out.tail (Step.alloc _)⟩
  ·have h1 : ((m : Int) / 10 == 0) = false := by rw [beq_eq_false_iff_ne]; omega
   go_wp2_with fail
   go_roundw
   case rel =>
    refine ⟨m / 10, [UInt8.ofNat (48 + m % 10)] ++ t, by simp, by rw [hDH.out, hTH.out, strOf_app2], by omega, ?_, hstH.out.tail (Step.alloc _)⟩
    rw [← List.append_assoc, ← itoa_big hs]; exact hitH.out
   case measure => simp [intOf]; omega
end Go.Proofs.YtembpajlllnncaaGreatDoor
namespace Go.Proofs.YtembpajlllnncaaGreatDoor
open Go.RowKit

theorem and_192 {y : Nat} (h : y < 256) : (bits BinOp.and IntKind.u8 (y : Int) 192 != 128) = !(decide (128 ≤ y ∧ y ≤ 191)) := by
 have h1 : ∀ y : Fin 256, (bits BinOp.and IntKind.u8 ((y.val : Nat) : Int) 192 != 128) = !(decide (128 ≤ y.val ∧ y.val ≤ 191)) := by decide +kernel
 exact h1 ⟨y, h⟩
set_option maxRecDepth 100000 in
set_option maxHeartbeats 8000000 in
theorem ref_utf8 (l : Bs) (w : World) (hl : l.length ≤ 140737488351232) : Calls Tryz.prog 64 #[.string (strOf l)] w fun e w' => e = .returned (.bool (utf8 l)) ∧ w = w' := by
 obtain ⟨S, hS⟩ : ∃ S, S = strOf l := ⟨_, rfl⟩
 have hsz : S.size = l.length := by rw [hS, strOf_size]
 have hget : ∀ k (h : k < S.size), S[k].toNat = byteAt l k := fun k h => by
  subst hS
  rw [byteAt_get (by rw [← hsz]; exact h)]
  rfl
 have hbl : ∀ k, byteAt l k < 256 := fun k => UInt8.toNat_lt _
 rw [← hS]
 obtain ⟨L, hL⟩ : ∃ L, L = l.length := ⟨_, rfl⟩
 rw [← hL] at hsz hl
 have hszi : S.size ≤ 140737488351232 := by omega
 have hSH := Lib.hid hS
 have hszH := Lib.hid hsz
 have hLH := Lib.hid hL
 have hgetH := Lib.hid hget
 have hblH := Lib.hid hbl
 clear hS hsz hL hget hbl
 go_enter Tryz.func64, Tryz.ntmps64
 go_wp2_with fail
 go_loop [3] (fun i => ∃ j : Nat, i = .int .i64 j ∧ j ≤ L ∧ utf8 l = utf8 (l.drop j)) (fun i => L - (intOf i).toNat)
 case atStart => exact ⟨0, rfl, Nat.zero_le _, rfl⟩
 case round =>
  obtain ⟨j, rfl, hj, he⟩ := hrel
  have heH := Lib.hid he
  clear he
  have hsz := hszH.out
  by_cases hjl : j < L
  ·have hjs : j < S.size := by omega
   have hjs1 : (j : Int) < (S.size : Int) := by omega
   have hj0 : (0 : Int) ≤ (j : Int) := by omega
   obtain ⟨c, hc⟩ : ∃ c, c = byteAt l j := ⟨_, rfl⟩
   have hcs : S[j].toNat = c := by rw [hc]; exact hgetH.out j hjs
   have hc256 : c < 256 := by rw [hc]; exact hblH.out j
   have hwrap1 : IntKind.i64.wrap ((j : Int) + 1) = (j : Int) + 1 := IntWalk.i64_in _ (by omega)
   have hcH := Lib.hid hc
   have hszH2 := Lib.hid hsz
   clear hc hsz
   by_cases h128 : c < 128
   ·have h128i : (c : Int) < 128 := by omega
    go_wp2_with fail
    refine ⟨⟨j + 1, by go_num, by omega, ?_⟩, by simp [intOf]; omega⟩
    rw [heH.out]
    exact utf8_step (by rw [← hLH.out]; exact hjl) (by rw [← hcH.out]; unfold stepU; rw [if_pos h128]) (by omega)
   have h128i : ¬ (c : Int) < 128 := by omega
   by_cases hbad : c < 194 ∨ 244 < c
   ·have hf : utf8 l = false := by
     rw [heH.out]
     refine utf8_fail (by rw [← hLH.out]; exact hjl) ?_
     rw [← hcH.out]; unfold stepU
     rcases hbad with h | h
     ·rw [if_neg h128, if_pos h]
     ·rw [if_neg h128, if_neg (by omega), if_neg (by omega), if_neg (by omega), if_neg (by omega)]
    have hfH := Lib.hid hf
    clear hf
    rcases hbad with h | h
    ·have k1 : ¬ (194 : Int) ≤ (c : Int) := by omega
     have k2 : ¬ (224 : Int) ≤ (c : Int) := by omega
     have k3 : ¬ (240 : Int) ≤ (c : Int) := by omega
     go_wp2_with fail
     go_ret
     exact ⟨by rw [hfH.out]; rfl, rfl⟩
    ·have k1 : (194 : Int) ≤ (c : Int) := by omega
     have k2 : (224 : Int) ≤ (c : Int) := by omega
     have k3 : (240 : Int) ≤ (c : Int) := by omega
     have k4 : ¬ (c : Int) ≤ 223 := by omega
     have k5 : ¬ (c : Int) ≤ 239 := by omega
     have k6 : ¬ (c : Int) ≤ 244 := by omega
     go_wp2_with fail
     go_ret
     exact ⟨by rw [hfH.out]; rfl, rfl⟩
   by_cases h223 : c ≤ 223
   ·have k1 : (194 : Int) ≤ (c : Int) := by omega
    have k2 : (c : Int) ≤ 223 := by omega
    obtain ⟨x, hx⟩ : ∃ x, x = byteAt l (j + 1) := ⟨_, rfl⟩
    have hx256 : x < 256 := by rw [hx]; exact hblH.out _
    have hxH := Lib.hid hx
    clear hx
    by_cases hlen : j + 1 < L
    rotate_left
    ·have hf : utf8 l = false := by
      rw [heH.out]
      refine utf8_fail (by rw [← hLH.out]; exact hjl) ?_
      rw [← hcH.out, ← hLH.out]; unfold stepU
      repeat' split
      all_goals omega
     have hfH := Lib.hid hf
     have hshort : (S.size : Int) - (j : Int) - 1 < 1 := by have := hszH.out; omega
     clear hf
     go_wp2_with fail
     go_ret
     exact ⟨by rw [hfH.out]; rfl, rfl⟩
    have hj1s : j + 1 < S.size := by have := hszH.out; omega
    have hxs : S[j + 1].toNat = x := by rw [hxH.out]; exact hgetH.out (j + 1) hj1s
    have hshort : ¬ ((S.size : Int) - (j : Int) - 1 < 1) := by have := hszH.out; omega
    by_cases hxr : 128 ≤ x ∧ x ≤ 191
    rotate_left
    ·have hf : utf8 l = false := by
      rw [heH.out]
      refine utf8_fail (by rw [← hLH.out]; exact hjl) ?_
      rw [← hcH.out, ← hLH.out, ← hxH.out]; unfold stepU
      repeat' split
      all_goals omega
     have hfH := Lib.hid hf
     clear hf
     by_cases hlo : x < 128
     ·have hloi : (x : Int) < 128 := by omega
      go_wp2_with fail
      go_ret
      exact ⟨by rw [hfH.out]; rfl, rfl⟩
     ·have hloi : ¬ (x : Int) < 128 := by omega
      have hhii : (191 : Int) < (x : Int) := by omega
      go_wp2_with fail
      go_ret
      exact ⟨by rw [hfH.out]; rfl, rfl⟩
    have hloi : ¬ (x : Int) < 128 := by omega
    have hhii : ¬ (191 : Int) < (x : Int) := by omega
    go_wp2_with fail
    go_loop [8] (fun k => ∃ t : Nat, k = .int .i64 t ∧ 2 ≤ t ∧ t ≤ 1 + 1 ∧ ∀ s, 2 ≤ s → s < t → 128 ≤ byteAt l (j + s) ∧ byteAt l (j + s) ≤ 191) (fun k => 1 + 1 - (intOf k).toNat)
    case atStart => exact ⟨2, rfl, Nat.le_refl _, by omega, fun s h1 h2 => by omega⟩
    case round =>
     obtain ⟨t, rfl, ht2, htn, hts⟩ := hrel
     have htsH := Lib.hid hts
     clear hts
     by_cases htl : t ≤ 1
     ·exfalso; omega
     ·have htl1 : ¬ (t : Int) ≤ 1 := by omega
      obtain rfl : t = 1 + 1 := by omega
      go_wp2_with fail
      refine ⟨⟨j + (1 + 1), by go_num, by omega, ?_⟩, by simp [intOf]; omega⟩
      rw [heH.out]
      refine utf8_step (by rw [← hLH.out]; exact hjl) ?_ (by omega)
      have hy := htsH.out 2 (by omega)
      have hz := htsH.out 3 (by omega)
      rw [← hcH.out, ← hLH.out, ← hxH.out]; unfold stepU
      repeat' split
      all_goals omega
   by_cases h239 : c ≤ 239
   ·have k1 : (194 : Int) ≤ (c : Int) := by omega
    have k2 : ¬ (c : Int) ≤ 223 := by omega
    have k3 : (224 : Int) ≤ (c : Int) := by omega
    have k4 : (c : Int) ≤ 239 := by omega
    by_cases e224 : c = 224
    ·subst e224
     obtain ⟨x, hx⟩ : ∃ x, x = byteAt l (j + 1) := ⟨_, rfl⟩
     have hx256 : x < 256 := by rw [hx]; exact hblH.out _
     have hxH := Lib.hid hx
     clear hx
     by_cases hlen : j + 2 < L
     rotate_left
     ·have hf : utf8 l = false := by
       rw [heH.out]
       refine utf8_fail (by rw [← hLH.out]; exact hjl) ?_
       rw [← hcH.out, ← hLH.out]; unfold stepU
       repeat' split
       all_goals omega
      have hfH := Lib.hid hf
      have hshort : (S.size : Int) - (j : Int) - 1 < 2 := by have := hszH.out; omega
      clear hf
      go_wp2_with fail
      go_ret
      exact ⟨by rw [hfH.out]; rfl, rfl⟩
     have hj1s : j + 1 < S.size := by have := hszH.out; omega
     have hxs : S[j + 1].toNat = x := by rw [hxH.out]; exact hgetH.out (j + 1) hj1s
     have hshort : ¬ ((S.size : Int) - (j : Int) - 1 < 2) := by have := hszH.out; omega
     by_cases hxr : 160 ≤ x ∧ x ≤ 191
     rotate_left
     ·have hf : utf8 l = false := by
       rw [heH.out]
       refine utf8_fail (by rw [← hLH.out]; exact hjl) ?_
       rw [← hcH.out, ← hLH.out, ← hxH.out]; unfold stepU
       repeat' split
       all_goals omega
      have hfH := Lib.hid hf
      clear hf
      by_cases hlo : x < 160
      ·have hloi : (x : Int) < 160 := by omega
       go_wp2_with fail
       go_ret
       exact ⟨by rw [hfH.out]; rfl, rfl⟩
      ·have hloi : ¬ (x : Int) < 160 := by omega
       have hhii : (191 : Int) < (x : Int) := by omega
       go_wp2_with fail
       go_ret
       exact ⟨by rw [hfH.out]; rfl, rfl⟩
     have hloi : ¬ (x : Int) < 160 := by omega
     have hhii : ¬ (191 : Int) < (x : Int) := by omega
     go_wp2_with fail
     go_loop [8] (fun k => ∃ t : Nat, k = .int .i64 t ∧ 2 ≤ t ∧ t ≤ 2 + 1 ∧ ∀ s, 2 ≤ s → s < t → 128 ≤ byteAt l (j + s) ∧ byteAt l (j + s) ≤ 191) (fun k => 2 + 1 - (intOf k).toNat)
     case atStart => exact ⟨2, rfl, Nat.le_refl _, by omega, fun s h1 h2 => by omega⟩
     case round =>
      obtain ⟨t, rfl, ht2, htn, hts⟩ := hrel
      have htsH := Lib.hid hts
      clear hts
      by_cases htl : t ≤ 2
      ·have htl1 : (t : Int) ≤ 2 := by omega
       have hjts : j + t < S.size := by have := hszH.out; omega
       obtain ⟨y, hy⟩ : ∃ y, y = byteAt l (j + t) := ⟨_, rfl⟩
       have hys : S[j + t].toNat = y := by rw [hy]; exact hgetH.out (j + t) hjts
       have hy256 : y < 256 := by rw [hy]; exact hblH.out _
       have hyH := Lib.hid hy
       clear hy
       have hbit := and_192 hy256
       by_cases hyr : 128 ≤ y ∧ y ≤ 191
       ·rw [decide_eq_true hyr] at hbit
        go_wp2_with fail
        refine ⟨⟨t + 1, by go_num, by omega, by omega, fun s h1 h2 => ?_⟩, by simp [intOf]; omega⟩
        rcases Nat.lt_or_ge s t with h | h
        ·exact htsH.out s h1 h
        ·obtain rfl : s = t := by omega
         rw [← hyH.out]; exact hyr
       ·rw [decide_eq_false hyr] at hbit
        have hf : utf8 l = false := by
         rw [heH.out]
         refine utf8_fail (by rw [← hLH.out]; exact hjl) ?_
         have hy := hyH.out
         have ht : t = 2 ∨ t = 3 := by omega
         rw [← hcH.out, ← hLH.out, ← hxH.out]; unfold stepU
         rcases ht with rfl | rfl
         ·rw [← hy]
          repeat' split
          all_goals omega
         ·rw [← hy]
          repeat' split
          all_goals omega
        have hfH := Lib.hid hf
        clear hf
        go_wp2_with fail
        go_ret
        exact ⟨by rw [hfH.out]; rfl, rfl⟩
      ·have htl1 : ¬ (t : Int) ≤ 2 := by omega
       obtain rfl : t = 2 + 1 := by omega
       go_wp2_with fail
       refine ⟨⟨j + (2 + 1), by go_num, by omega, ?_⟩, by simp [intOf]; omega⟩
       rw [heH.out]
       refine utf8_step (by rw [← hLH.out]; exact hjl) ?_ (by omega)
       have hy := htsH.out 2 (by omega)
       have hz := htsH.out 3 (by omega)
       rw [← hcH.out, ← hLH.out, ← hxH.out]; unfold stepU
       repeat' split
       all_goals omega
    have e224i : ((c : Int) == 224) = false := by rw [beq_eq_false_iff_ne]; omega
    by_cases e237 : c = 237
    ·subst e237
     obtain ⟨x, hx⟩ : ∃ x, x = byteAt l (j + 1) := ⟨_, rfl⟩
     have hx256 : x < 256 := by rw [hx]; exact hblH.out _
     have hxH := Lib.hid hx
     clear hx
     by_cases hlen : j + 2 < L
     rotate_left
     ·have hf : utf8 l = false := by
       rw [heH.out]
       refine utf8_fail (by rw [← hLH.out]; exact hjl) ?_
       rw [← hcH.out, ← hLH.out]; unfold stepU
       repeat' split
       all_goals omega
      have hfH := Lib.hid hf
      have hshort : (S.size : Int) - (j : Int) - 1 < 2 := by have := hszH.out; omega
      clear hf
      go_wp2_with fail
      go_ret
      exact ⟨by rw [hfH.out]; rfl, rfl⟩
     have hj1s : j + 1 < S.size := by have := hszH.out; omega
     have hxs : S[j + 1].toNat = x := by rw [hxH.out]; exact hgetH.out (j + 1) hj1s
     have hshort : ¬ ((S.size : Int) - (j : Int) - 1 < 2) := by have := hszH.out; omega
     by_cases hxr : 128 ≤ x ∧ x ≤ 159
     rotate_left
     ·have hf : utf8 l = false := by
       rw [heH.out]
       refine utf8_fail (by rw [← hLH.out]; exact hjl) ?_
       rw [← hcH.out, ← hLH.out, ← hxH.out]; unfold stepU
       repeat' split
       all_goals omega
      have hfH := Lib.hid hf
      clear hf
      by_cases hlo : x < 128
      ·have hloi : (x : Int) < 128 := by omega
       go_wp2_with fail
       go_ret
       exact ⟨by rw [hfH.out]; rfl, rfl⟩
      ·have hloi : ¬ (x : Int) < 128 := by omega
       have hhii : (159 : Int) < (x : Int) := by omega
       go_wp2_with fail
       go_ret
       exact ⟨by rw [hfH.out]; rfl, rfl⟩
     have hloi : ¬ (x : Int) < 128 := by omega
     have hhii : ¬ (159 : Int) < (x : Int) := by omega
     go_wp2_with fail
     go_loop [8] (fun k => ∃ t : Nat, k = .int .i64 t ∧ 2 ≤ t ∧ t ≤ 2 + 1 ∧ ∀ s, 2 ≤ s → s < t → 128 ≤ byteAt l (j + s) ∧ byteAt l (j + s) ≤ 191) (fun k => 2 + 1 - (intOf k).toNat)
     case atStart => exact ⟨2, rfl, Nat.le_refl _, by omega, fun s h1 h2 => by omega⟩
     case round =>
      obtain ⟨t, rfl, ht2, htn, hts⟩ := hrel
      have htsH := Lib.hid hts
      clear hts
      by_cases htl : t ≤ 2
      ·have htl1 : (t : Int) ≤ 2 := by omega
       have hjts : j + t < S.size := by have := hszH.out; omega
       obtain ⟨y, hy⟩ : ∃ y, y = byteAt l (j + t) := ⟨_, rfl⟩
       have hys : S[j + t].toNat = y := by rw [hy]; exact hgetH.out (j + t) hjts
       have hy256 : y < 256 := by rw [hy]; exact hblH.out _
       have hyH := Lib.hid hy
       clear hy
       have hbit := and_192 hy256
       by_cases hyr : 128 ≤ y ∧ y ≤ 191
       ·rw [decide_eq_true hyr] at hbit
        go_wp2_with fail
        refine ⟨⟨t + 1, by go_num, by omega, by omega, fun s h1 h2 => ?_⟩, by simp [intOf]; omega⟩
        rcases Nat.lt_or_ge s t with h | h
        ·exact htsH.out s h1 h
        ·obtain rfl : s = t := by omega
         rw [← hyH.out]; exact hyr
       ·rw [decide_eq_false hyr] at hbit
        have hf : utf8 l = false := by
         rw [heH.out]
         refine utf8_fail (by rw [← hLH.out]; exact hjl) ?_
         have hy := hyH.out
         have ht : t = 2 ∨ t = 3 := by omega
         rw [← hcH.out, ← hLH.out, ← hxH.out]; unfold stepU
         rcases ht with rfl | rfl
         ·rw [← hy]
          repeat' split
          all_goals omega
         ·rw [← hy]
          repeat' split
          all_goals omega
        have hfH := Lib.hid hf
        clear hf
        go_wp2_with fail
        go_ret
        exact ⟨by rw [hfH.out]; rfl, rfl⟩
      ·have htl1 : ¬ (t : Int) ≤ 2 := by omega
       obtain rfl : t = 2 + 1 := by omega
       go_wp2_with fail
       refine ⟨⟨j + (2 + 1), by go_num, by omega, ?_⟩, by simp [intOf]; omega⟩
       rw [heH.out]
       refine utf8_step (by rw [← hLH.out]; exact hjl) ?_ (by omega)
       have hy := htsH.out 2 (by omega)
       have hz := htsH.out 3 (by omega)
       rw [← hcH.out, ← hLH.out, ← hxH.out]; unfold stepU
       repeat' split
       all_goals omega
    have e237i : ((c : Int) == 237) = false := by rw [beq_eq_false_iff_ne]; omega
    obtain ⟨x, hx⟩ : ∃ x, x = byteAt l (j + 1) := ⟨_, rfl⟩
    have hx256 : x < 256 := by rw [hx]; exact hblH.out _
    have hxH := Lib.hid hx
    clear hx
    by_cases hlen : j + 2 < L
    rotate_left
    ·have hf : utf8 l = false := by
      rw [heH.out]
      refine utf8_fail (by rw [← hLH.out]; exact hjl) ?_
      rw [← hcH.out, ← hLH.out]; unfold stepU
      repeat' split
      all_goals omega
     have hfH := Lib.hid hf
     have hshort : (S.size : Int) - (j : Int) - 1 < 2 := by have := hszH.out; omega
     clear hf
     go_wp2_with fail
     go_ret
     exact ⟨by rw [hfH.out]; rfl, rfl⟩
    have hj1s : j + 1 < S.size := by have := hszH.out; omega
    have hxs : S[j + 1].toNat = x := by rw [hxH.out]; exact hgetH.out (j + 1) hj1s
    have hshort : ¬ ((S.size : Int) - (j : Int) - 1 < 2) := by have := hszH.out; omega
    by_cases hxr : 128 ≤ x ∧ x ≤ 191
    rotate_left
    ·have hf : utf8 l = false := by
      rw [heH.out]
      refine utf8_fail (by rw [← hLH.out]; exact hjl) ?_
      rw [← hcH.out, ← hLH.out, ← hxH.out]; unfold stepU
      repeat' split
      all_goals omega
     have hfH := Lib.hid hf
     clear hf
     by_cases hlo : x < 128
     ·have hloi : (x : Int) < 128 := by omega
      go_wp2_with fail
      go_ret
      exact ⟨by rw [hfH.out]; rfl, rfl⟩
     ·have hloi : ¬ (x : Int) < 128 := by omega
      have hhii : (191 : Int) < (x : Int) := by omega
      go_wp2_with fail
      go_ret
      exact ⟨by rw [hfH.out]; rfl, rfl⟩
    have hloi : ¬ (x : Int) < 128 := by omega
    have hhii : ¬ (191 : Int) < (x : Int) := by omega
    go_wp2_with fail
    go_loop [8] (fun k => ∃ t : Nat, k = .int .i64 t ∧ 2 ≤ t ∧ t ≤ 2 + 1 ∧ ∀ s, 2 ≤ s → s < t → 128 ≤ byteAt l (j + s) ∧ byteAt l (j + s) ≤ 191) (fun k => 2 + 1 - (intOf k).toNat)
    case atStart => exact ⟨2, rfl, Nat.le_refl _, by omega, fun s h1 h2 => by omega⟩
    case round =>
     obtain ⟨t, rfl, ht2, htn, hts⟩ := hrel
     have htsH := Lib.hid hts
     clear hts
     by_cases htl : t ≤ 2
     ·have htl1 : (t : Int) ≤ 2 := by omega
      have hjts : j + t < S.size := by have := hszH.out; omega
      obtain ⟨y, hy⟩ : ∃ y, y = byteAt l (j + t) := ⟨_, rfl⟩
      have hys : S[j + t].toNat = y := by rw [hy]; exact hgetH.out (j + t) hjts
      have hy256 : y < 256 := by rw [hy]; exact hblH.out _
      have hyH := Lib.hid hy
      clear hy
      have hbit := and_192 hy256
      by_cases hyr : 128 ≤ y ∧ y ≤ 191
      ·rw [decide_eq_true hyr] at hbit
       go_wp2_with fail
       refine ⟨⟨t + 1, by go_num, by omega, by omega, fun s h1 h2 => ?_⟩, by simp [intOf]; omega⟩
       rcases Nat.lt_or_ge s t with h | h
       ·exact htsH.out s h1 h
       ·obtain rfl : s = t := by omega
        rw [← hyH.out]; exact hyr
      ·rw [decide_eq_false hyr] at hbit
       have hf : utf8 l = false := by
        rw [heH.out]
        refine utf8_fail (by rw [← hLH.out]; exact hjl) ?_
        have hy := hyH.out
        have ht : t = 2 ∨ t = 3 := by omega
        rw [← hcH.out, ← hLH.out, ← hxH.out]; unfold stepU
        rcases ht with rfl | rfl
        ·rw [← hy]
         repeat' split
         all_goals omega
        ·rw [← hy]
         repeat' split
         all_goals omega
       have hfH := Lib.hid hf
       clear hf
       go_wp2_with fail
       go_ret
       exact ⟨by rw [hfH.out]; rfl, rfl⟩
     ·have htl1 : ¬ (t : Int) ≤ 2 := by omega
      obtain rfl : t = 2 + 1 := by omega
      go_wp2_with fail
      refine ⟨⟨j + (2 + 1), by go_num, by omega, ?_⟩, by simp [intOf]; omega⟩
      rw [heH.out]
      refine utf8_step (by rw [← hLH.out]; exact hjl) ?_ (by omega)
      have hy := htsH.out 2 (by omega)
      have hz := htsH.out 3 (by omega)
      rw [← hcH.out, ← hLH.out, ← hxH.out]; unfold stepU
      repeat' split
      all_goals omega
   ·have k1 : (194 : Int) ≤ (c : Int) := by omega
    have k2 : ¬ (c : Int) ≤ 223 := by omega
    have k3 : (224 : Int) ≤ (c : Int) := by omega
    have k4 : ¬ (c : Int) ≤ 239 := by omega
    have k5 : (240 : Int) ≤ (c : Int) := by omega
    have k6 : (c : Int) ≤ 244 := by omega
    by_cases e240 : c = 240
    ·subst e240
     obtain ⟨x, hx⟩ : ∃ x, x = byteAt l (j + 1) := ⟨_, rfl⟩
     have hx256 : x < 256 := by rw [hx]; exact hblH.out _
     have hxH := Lib.hid hx
     clear hx
     by_cases hlen : j + 3 < L
     rotate_left
     ·have hf : utf8 l = false := by
       rw [heH.out]
       refine utf8_fail (by rw [← hLH.out]; exact hjl) ?_
       rw [← hcH.out, ← hLH.out]; unfold stepU
       repeat' split
       all_goals omega
      have hfH := Lib.hid hf
      have hshort : (S.size : Int) - (j : Int) - 1 < 3 := by have := hszH.out; omega
      clear hf
      go_wp2_with fail
      go_ret
      exact ⟨by rw [hfH.out]; rfl, rfl⟩
     have hj1s : j + 1 < S.size := by have := hszH.out; omega
     have hxs : S[j + 1].toNat = x := by rw [hxH.out]; exact hgetH.out (j + 1) hj1s
     have hshort : ¬ ((S.size : Int) - (j : Int) - 1 < 3) := by have := hszH.out; omega
     by_cases hxr : 144 ≤ x ∧ x ≤ 191
     rotate_left
     ·have hf : utf8 l = false := by
       rw [heH.out]
       refine utf8_fail (by rw [← hLH.out]; exact hjl) ?_
       rw [← hcH.out, ← hLH.out, ← hxH.out]; unfold stepU
       repeat' split
       all_goals omega
      have hfH := Lib.hid hf
      clear hf
      by_cases hlo : x < 144
      ·have hloi : (x : Int) < 144 := by omega
       go_wp2_with fail
       go_ret
       exact ⟨by rw [hfH.out]; rfl, rfl⟩
      ·have hloi : ¬ (x : Int) < 144 := by omega
       have hhii : (191 : Int) < (x : Int) := by omega
       go_wp2_with fail
       go_ret
       exact ⟨by rw [hfH.out]; rfl, rfl⟩
     have hloi : ¬ (x : Int) < 144 := by omega
     have hhii : ¬ (191 : Int) < (x : Int) := by omega
     go_wp2_with fail
     go_loop [8] (fun k => ∃ t : Nat, k = .int .i64 t ∧ 2 ≤ t ∧ t ≤ 3 + 1 ∧ ∀ s, 2 ≤ s → s < t → 128 ≤ byteAt l (j + s) ∧ byteAt l (j + s) ≤ 191) (fun k => 3 + 1 - (intOf k).toNat)
     case atStart => exact ⟨2, rfl, Nat.le_refl _, by omega, fun s h1 h2 => by omega⟩
     case round =>
      obtain ⟨t, rfl, ht2, htn, hts⟩ := hrel
      have htsH := Lib.hid hts
      clear hts
      by_cases htl : t ≤ 3
      ·have htl1 : (t : Int) ≤ 3 := by omega
       have hjts : j + t < S.size := by have := hszH.out; omega
       obtain ⟨y, hy⟩ : ∃ y, y = byteAt l (j + t) := ⟨_, rfl⟩
       have hys : S[j + t].toNat = y := by rw [hy]; exact hgetH.out (j + t) hjts
       have hy256 : y < 256 := by rw [hy]; exact hblH.out _
       have hyH := Lib.hid hy
       clear hy
       have hbit := and_192 hy256
       by_cases hyr : 128 ≤ y ∧ y ≤ 191
       ·rw [decide_eq_true hyr] at hbit
        go_wp2_with fail
        refine ⟨⟨t + 1, by go_num, by omega, by omega, fun s h1 h2 => ?_⟩, by simp [intOf]; omega⟩
        rcases Nat.lt_or_ge s t with h | h
        ·exact htsH.out s h1 h
        ·obtain rfl : s = t := by omega
         rw [← hyH.out]; exact hyr
       ·rw [decide_eq_false hyr] at hbit
        have hf : utf8 l = false := by
         rw [heH.out]
         refine utf8_fail (by rw [← hLH.out]; exact hjl) ?_
         have hy := hyH.out
         have ht : t = 2 ∨ t = 3 := by omega
         rw [← hcH.out, ← hLH.out, ← hxH.out]; unfold stepU
         rcases ht with rfl | rfl
         ·rw [← hy]
          repeat' split
          all_goals omega
         ·rw [← hy]
          repeat' split
          all_goals omega
        have hfH := Lib.hid hf
        clear hf
        go_wp2_with fail
        go_ret
        exact ⟨by rw [hfH.out]; rfl, rfl⟩
      ·have htl1 : ¬ (t : Int) ≤ 3 := by omega
       obtain rfl : t = 3 + 1 := by omega
       go_wp2_with fail
       refine ⟨⟨j + (3 + 1), by go_num, by omega, ?_⟩, by simp [intOf]; omega⟩
       rw [heH.out]
       refine utf8_step (by rw [← hLH.out]; exact hjl) ?_ (by omega)
       have hy := htsH.out 2 (by omega)
       have hz := htsH.out 3 (by omega)
       rw [← hcH.out, ← hLH.out, ← hxH.out]; unfold stepU
       repeat' split
       all_goals omega
    have e240i : ((c : Int) == 240) = false := by rw [beq_eq_false_iff_ne]; omega
    by_cases e244 : c = 244
    ·subst e244
     obtain ⟨x, hx⟩ : ∃ x, x = byteAt l (j + 1) := ⟨_, rfl⟩
     have hx256 : x < 256 := by rw [hx]; exact hblH.out _
     have hxH := Lib.hid hx
     clear hx
     by_cases hlen : j + 3 < L
     rotate_left
     ·have hf : utf8 l = false := by
       rw [heH.out]
       refine utf8_fail (by rw [← hLH.out]; exact hjl) ?_
       rw [← hcH.out, ← hLH.out]; unfold stepU
       repeat' split
       all_goals omega
      have hfH := Lib.hid hf
      have hshort : (S.size : Int) - (j : Int) - 1 < 3 := by have := hszH.out; omega
      clear hf
      go_wp2_with fail
      go_ret
      exact ⟨by rw [hfH.out]; rfl, rfl⟩
     have hj1s : j + 1 < S.size := by have := hszH.out; omega
     have hxs : S[j + 1].toNat = x := by rw [hxH.out]; exact hgetH.out (j + 1) hj1s
     have hshort : ¬ ((S.size : Int) - (j : Int) - 1 < 3) := by have := hszH.out; omega
     by_cases hxr : 128 ≤ x ∧ x ≤ 143
     rotate_left
     ·have hf : utf8 l = false := by
       rw [heH.out]
       refine utf8_fail (by rw [← hLH.out]; exact hjl) ?_
       rw [← hcH.out, ← hLH.out, ← hxH.out]; unfold stepU
       repeat' split
       all_goals omega
      have hfH := Lib.hid hf
      clear hf
      by_cases hlo : x < 128
      ·have hloi : (x : Int) < 128 := by omega
       go_wp2_with fail
       go_ret
       exact ⟨by rw [hfH.out]; rfl, rfl⟩
      ·have hloi : ¬ (x : Int) < 128 := by omega
       have hhii : (143 : Int) < (x : Int) := by omega
       go_wp2_with fail
       go_ret
       exact ⟨by rw [hfH.out]; rfl, rfl⟩
     have hloi : ¬ (x : Int) < 128 := by omega
     have hhii : ¬ (143 : Int) < (x : Int) := by omega
     go_wp2_with fail
     go_loop [8] (fun k => ∃ t : Nat, k = .int .i64 t ∧ 2 ≤ t ∧ t ≤ 3 + 1 ∧ ∀ s, 2 ≤ s → s < t → 128 ≤ byteAt l (j + s) ∧ byteAt l (j + s) ≤ 191) (fun k => 3 + 1 - (intOf k).toNat)
     case atStart => exact ⟨2, rfl, Nat.le_refl _, by omega, fun s h1 h2 => by omega⟩
     case round =>
      obtain ⟨t, rfl, ht2, htn, hts⟩ := hrel
      have htsH := Lib.hid hts
      clear hts
      by_cases htl : t ≤ 3
      ·have htl1 : (t : Int) ≤ 3 := by omega
       have hjts : j + t < S.size := by have := hszH.out; omega
       obtain ⟨y, hy⟩ : ∃ y, y = byteAt l (j + t) := ⟨_, rfl⟩
       have hys : S[j + t].toNat = y := by rw [hy]; exact hgetH.out (j + t) hjts
       have hy256 : y < 256 := by rw [hy]; exact hblH.out _
       have hyH := Lib.hid hy
       clear hy
       have hbit := and_192 hy256
       by_cases hyr : 128 ≤ y ∧ y ≤ 191
       ·rw [decide_eq_true hyr] at hbit
        go_wp2_with fail
        refine ⟨⟨t + 1, by go_num, by omega, by omega, fun s h1 h2 => ?_⟩, by simp [intOf]; omega⟩
        rcases Nat.lt_or_ge s t with h | h
        ·exact htsH.out s h1 h
        ·obtain rfl : s = t := by omega
         rw [← hyH.out]; exact hyr
       ·rw [decide_eq_false hyr] at hbit
        have hf : utf8 l = false := by
         rw [heH.out]
         refine utf8_fail (by rw [← hLH.out]; exact hjl) ?_
         have hy := hyH.out
         have ht : t = 2 ∨ t = 3 := by omega
         rw [← hcH.out, ← hLH.out, ← hxH.out]; unfold stepU
         rcases ht with rfl | rfl
         ·rw [← hy]
          repeat' split
          all_goals omega
         ·rw [← hy]
          repeat' split
          all_goals omega
        have hfH := Lib.hid hf
        clear hf
        go_wp2_with fail
        go_ret
        exact ⟨by rw [hfH.out]; rfl, rfl⟩
      ·have htl1 : ¬ (t : Int) ≤ 3 := by omega
       obtain rfl : t = 3 + 1 := by omega
       go_wp2_with fail
       refine ⟨⟨j + (3 + 1), by go_num, by omega, ?_⟩, by simp [intOf]; omega⟩
       rw [heH.out]
       refine utf8_step (by rw [← hLH.out]; exact hjl) ?_ (by omega)
       have hy := htsH.out 2 (by omega)
       have hz := htsH.out 3 (by omega)
       rw [← hcH.out, ← hLH.out, ← hxH.out]; unfold stepU
       repeat' split
       all_goals omega
    have e244i : ((c : Int) == 244) = false := by rw [beq_eq_false_iff_ne]; omega
    obtain ⟨x, hx⟩ : ∃ x, x = byteAt l (j + 1) := ⟨_, rfl⟩
    have hx256 : x < 256 := by rw [hx]; exact hblH.out _
    have hxH := Lib.hid hx
    clear hx
    by_cases hlen : j + 3 < L
    rotate_left
    ·have hf : utf8 l = false := by
      rw [heH.out]
      refine utf8_fail (by rw [← hLH.out]; exact hjl) ?_
      rw [← hcH.out, ← hLH.out]; unfold stepU
      repeat' split
      all_goals omega
     have hfH := Lib.hid hf
     have hshort : (S.size : Int) - (j : Int) - 1 < 3 := by have := hszH.out; omega
     clear hf
     go_wp2_with fail
     go_ret
     exact ⟨by rw [hfH.out]; rfl, rfl⟩
    have hj1s : j + 1 < S.size := by have := hszH.out; omega
    have hxs : S[j + 1].toNat = x := by rw [hxH.out]; exact hgetH.out (j + 1) hj1s
    have hshort : ¬ ((S.size : Int) - (j : Int) - 1 < 3) := by have := hszH.out; omega
    by_cases hxr : 128 ≤ x ∧ x ≤ 191
    rotate_left
    ·have hf : utf8 l = false := by
      rw [heH.out]
      refine utf8_fail (by rw [← hLH.out]; exact hjl) ?_
      rw [← hcH.out, ← hLH.out, ← hxH.out]; unfold stepU
      repeat' split
      all_goals omega
     have hfH := Lib.hid hf
     clear hf
     by_cases hlo : x < 128
     ·have hloi : (x : Int) < 128 := by omega
      go_wp2_with fail
      go_ret
      exact ⟨by rw [hfH.out]; rfl, rfl⟩
     ·have hloi : ¬ (x : Int) < 128 := by omega
      have hhii : (191 : Int) < (x : Int) := by omega
      go_wp2_with fail
      go_ret
      exact ⟨by rw [hfH.out]; rfl, rfl⟩
    have hloi : ¬ (x : Int) < 128 := by omega
    have hhii : ¬ (191 : Int) < (x : Int) := by omega
    go_wp2_with fail
    go_loop [8] (fun k => ∃ t : Nat, k = .int .i64 t ∧ 2 ≤ t ∧ t ≤ 3 + 1 ∧ ∀ s, 2 ≤ s → s < t → 128 ≤ byteAt l (j + s) ∧ byteAt l (j + s) ≤ 191) (fun k => 3 + 1 - (intOf k).toNat)
    case atStart => exact ⟨2, rfl, Nat.le_refl _, by omega, fun s h1 h2 => by omega⟩
    case round =>
     obtain ⟨t, rfl, ht2, htn, hts⟩ := hrel
     have htsH := Lib.hid hts
     clear hts
     by_cases htl : t ≤ 3
     ·have htl1 : (t : Int) ≤ 3 := by omega
      have hjts : j + t < S.size := by have := hszH.out; omega
      obtain ⟨y, hy⟩ : ∃ y, y = byteAt l (j + t) := ⟨_, rfl⟩
      have hys : S[j + t].toNat = y := by rw [hy]; exact hgetH.out (j + t) hjts
      have hy256 : y < 256 := by rw [hy]; exact hblH.out _
      have hyH := Lib.hid hy
      clear hy
      have hbit := and_192 hy256
      by_cases hyr : 128 ≤ y ∧ y ≤ 191
      ·rw [decide_eq_true hyr] at hbit
       go_wp2_with fail
       refine ⟨⟨t + 1, by go_num, by omega, by omega, fun s h1 h2 => ?_⟩, by simp [intOf]; omega⟩
       rcases Nat.lt_or_ge s t with h | h
       ·exact htsH.out s h1 h
       ·obtain rfl : s = t := by omega
        rw [← hyH.out]; exact hyr
      ·rw [decide_eq_false hyr] at hbit
       have hf : utf8 l = false := by
        rw [heH.out]
        refine utf8_fail (by rw [← hLH.out]; exact hjl) ?_
        have hy := hyH.out
        have ht : t = 2 ∨ t = 3 := by omega
        rw [← hcH.out, ← hLH.out, ← hxH.out]; unfold stepU
        rcases ht with rfl | rfl
        ·rw [← hy]
         repeat' split
         all_goals omega
        ·rw [← hy]
         repeat' split
         all_goals omega
       have hfH := Lib.hid hf
       clear hf
       go_wp2_with fail
       go_ret
       exact ⟨by rw [hfH.out]; rfl, rfl⟩
     ·have htl1 : ¬ (t : Int) ≤ 3 := by omega
      obtain rfl : t = 3 + 1 := by omega
      go_wp2_with fail
      refine ⟨⟨j + (3 + 1), by go_num, by omega, ?_⟩, by simp [intOf]; omega⟩
      rw [heH.out]
      refine utf8_step (by rw [← hLH.out]; exact hjl) ?_ (by omega)
      have hy := htsH.out 2 (by omega)
      have hz := htsH.out 3 (by omega)
      rw [← hcH.out, ← hLH.out, ← hxH.out]; unfold stepU
      repeat' split
      all_goals omega
  ·have hjl1 : ¬ j < S.size := by omega
   have hf : utf8 l = true := by
    rw [heH.out, List.drop_of_length_le (by rw [← hLH.out]; omega), utf8]
   have hfH := Lib.hid hf
   clear hf hsz
   go_wp2_with fail
   go_ret
   exact ⟨by rw [hfH.out]; rfl, rfl⟩
end Go.Proofs.YtembpajlllnncaaGreatDoor
namespace Go.Proofs.YtembpajlllnncaaGreatDoor
open Go.RowKit

def bareB : Val → Bool → Bool → Bool → Bool → Bool → Bool
 | .mk _ num s' b' f' l', n, s, b, f, l => (n || decide (num = 0)) && (s || s'.isEmpty) && (b || b'.isEmpty) && (f || f'.isEmpty) && (l || l'.isEmpty)
def BoolP (r : Bool) (w : World) (e : Ending) (w' : World) : Prop := e = .returned (.bool r) ∧ Step [] id id w w'
set_option maxRecDepth 100000 in
set_option maxHeartbeats 2000000 in
theorem ref_bare_0 {P : Nat → Prop} {x : Val} {cs : List Value} {w : World} (h : VIs P w x cs) : Calls Tryz.prog 62 #[.agg cs.toArray, .bool false, .bool false, .bool false, .bool false, .bool false] w (BoolP (bareB x false false false false false) w) := by
 obtain ⟨bv, fa, fc, la, lc, rfl, h2, h3, h4, h5, h6, h7⟩ := h.cells
 obtain ⟨ba, bc, rfl⟩ := h2.shape
 cases x with
 | mk k n s b f l =>
  simp only [Val.kind, Val.num, Val.s, Val.b, Val.f, Val.l] at *
  obtain ⟨h4a, h4b, h4c, h4d⟩ := h4
  obtain ⟨h5a, h5b, h5c, h5d⟩ := h5
  clear h h2 h3 h6 h7
  rcases Nat.eq_zero_or_pos s.length with hs0 | hs0
  ·have hsE : (strOf s).toList.isEmpty = true := by
    rw [show (strOf s).toList = s by simp [strOf, ByteArray.toList_eq]]; simpa using List.length_eq_zero_iff.1 hs0
   go_enter Tryz.func62, Tryz.ntmps62
   go_wp2
   all_goals
    go_ret
    refine ⟨congrArg (fun b => Ending.returned (Value.bool b)) ?_, Step.alloc _⟩
    rw [Bool.eq_iff_iff]
    simp only [bareB, Val.num, Val.s, Val.b, Val.f, Val.l, Bool.and_eq_true, Bool.or_eq_true, decide_eq_true_eq, List.isEmpty_iff, beq_iff_eq, Bool.false_eq_true, false_iff, true_iff, ← List.length_eq_zero_iff]
    try simp only [hsE] at *
    try simp only [beq_iff_eq, Bool.true_eq_false, Bool.false_eq_true] at *
    try simp only [true_or, or_true, true_and, and_true]
    try simp only [← List.length_eq_zero_iff] at *
    try simp only [false_or, true_or, true_and, and_true, decide_eq_true_eq]
    omega
  ·have hsE : (strOf s).toList.isEmpty = false := by
    rw [show (strOf s).toList = s by simp [strOf, ByteArray.toList_eq]]; cases s <;> simp at hs0 ⊢
   go_enter Tryz.func62, Tryz.ntmps62
   go_wp2
   all_goals
    go_ret
    refine ⟨congrArg (fun b => Ending.returned (Value.bool b)) ?_, Step.alloc _⟩
    rw [Bool.eq_iff_iff]
    simp only [bareB, Val.num, Val.s, Val.b, Val.f, Val.l, Bool.and_eq_true, Bool.or_eq_true, decide_eq_true_eq, List.isEmpty_iff, beq_iff_eq, Bool.false_eq_true, false_iff, true_iff, ← List.length_eq_zero_iff]
    try simp only [hsE] at *
    try simp only [beq_iff_eq, Bool.true_eq_false, Bool.false_eq_true] at *
    try simp only [true_or, or_true, true_and, and_true]
    try simp only [← List.length_eq_zero_iff] at *
    try simp only [false_or, true_or, true_and, and_true, decide_eq_true_eq]
    omega
set_option maxRecDepth 100000 in
set_option maxHeartbeats 2000000 in
theorem ref_bare_n {P : Nat → Prop} {x : Val} {cs : List Value} {w : World} (h : VIs P w x cs) : Calls Tryz.prog 62 #[.agg cs.toArray, .bool true, .bool false, .bool false, .bool false, .bool false] w (BoolP (bareB x true false false false false) w) := by
 obtain ⟨bv, fa, fc, la, lc, rfl, h2, h3, h4, h5, h6, h7⟩ := h.cells
 obtain ⟨ba, bc, rfl⟩ := h2.shape
 cases x with
 | mk k n s b f l =>
  simp only [Val.kind, Val.num, Val.s, Val.b, Val.f, Val.l] at *
  obtain ⟨h4a, h4b, h4c, h4d⟩ := h4
  obtain ⟨h5a, h5b, h5c, h5d⟩ := h5
  clear h h2 h3 h6 h7
  rcases Nat.eq_zero_or_pos s.length with hs0 | hs0
  ·have hsE : (strOf s).toList.isEmpty = true := by
    rw [show (strOf s).toList = s by simp [strOf, ByteArray.toList_eq]]; simpa using List.length_eq_zero_iff.1 hs0
   go_enter Tryz.func62, Tryz.ntmps62
   go_wp2
   all_goals
    go_ret
    refine ⟨congrArg (fun b => Ending.returned (Value.bool b)) ?_, Step.alloc _⟩
    rw [Bool.eq_iff_iff]
    simp only [bareB, Val.num, Val.s, Val.b, Val.f, Val.l, Bool.and_eq_true, Bool.or_eq_true, decide_eq_true_eq, List.isEmpty_iff, beq_iff_eq, Bool.false_eq_true, false_iff, true_iff, ← List.length_eq_zero_iff]
    try simp only [hsE] at *
    try simp only [beq_iff_eq, Bool.true_eq_false, Bool.false_eq_true] at *
    try simp only [true_or, or_true, true_and, and_true]
    try simp only [← List.length_eq_zero_iff] at *
    try simp only [false_or, true_or, true_and, and_true, decide_eq_true_eq]
    omega
  ·have hsE : (strOf s).toList.isEmpty = false := by
    rw [show (strOf s).toList = s by simp [strOf, ByteArray.toList_eq]]; cases s <;> simp at hs0 ⊢
   go_enter Tryz.func62, Tryz.ntmps62
   go_wp2
   all_goals
    go_ret
    refine ⟨congrArg (fun b => Ending.returned (Value.bool b)) ?_, Step.alloc _⟩
    rw [Bool.eq_iff_iff]
    simp only [bareB, Val.num, Val.s, Val.b, Val.f, Val.l, Bool.and_eq_true, Bool.or_eq_true, decide_eq_true_eq, List.isEmpty_iff, beq_iff_eq, Bool.false_eq_true, false_iff, true_iff, ← List.length_eq_zero_iff]
    try simp only [hsE] at *
    try simp only [beq_iff_eq, Bool.true_eq_false, Bool.false_eq_true] at *
    try simp only [true_or, or_true, true_and, and_true]
    try simp only [← List.length_eq_zero_iff] at *
    try simp only [false_or, true_or, true_and, and_true, decide_eq_true_eq]
    omega
set_option maxRecDepth 100000 in
set_option maxHeartbeats 2000000 in
theorem ref_bare_s {P : Nat → Prop} {x : Val} {cs : List Value} {w : World} (h : VIs P w x cs) : Calls Tryz.prog 62 #[.agg cs.toArray, .bool false, .bool true, .bool false, .bool false, .bool false] w (BoolP (bareB x false true false false false) w) := by
 obtain ⟨bv, fa, fc, la, lc, rfl, h2, h3, h4, h5, h6, h7⟩ := h.cells
 obtain ⟨ba, bc, rfl⟩ := h2.shape
 cases x with
 | mk k n s b f l =>
  simp only [Val.kind, Val.num, Val.s, Val.b, Val.f, Val.l] at *
  obtain ⟨h4a, h4b, h4c, h4d⟩ := h4
  obtain ⟨h5a, h5b, h5c, h5d⟩ := h5
  clear h h2 h3 h6 h7
  rcases Nat.eq_zero_or_pos s.length with hs0 | hs0
  ·have hsE : (strOf s).toList.isEmpty = true := by
    rw [show (strOf s).toList = s by simp [strOf, ByteArray.toList_eq]]; simpa using List.length_eq_zero_iff.1 hs0
   go_enter Tryz.func62, Tryz.ntmps62
   go_wp2
   all_goals
    go_ret
    refine ⟨congrArg (fun b => Ending.returned (Value.bool b)) ?_, Step.alloc _⟩
    rw [Bool.eq_iff_iff]
    simp only [bareB, Val.num, Val.s, Val.b, Val.f, Val.l, Bool.and_eq_true, Bool.or_eq_true, decide_eq_true_eq, List.isEmpty_iff, beq_iff_eq, Bool.false_eq_true, false_iff, true_iff, ← List.length_eq_zero_iff]
    try simp only [hsE] at *
    try simp only [beq_iff_eq, Bool.true_eq_false, Bool.false_eq_true] at *
    try simp only [true_or, or_true, true_and, and_true]
    try simp only [← List.length_eq_zero_iff] at *
    try simp only [false_or, true_or, true_and, and_true, decide_eq_true_eq]
    omega
  ·have hsE : (strOf s).toList.isEmpty = false := by
    rw [show (strOf s).toList = s by simp [strOf, ByteArray.toList_eq]]; cases s <;> simp at hs0 ⊢
   go_enter Tryz.func62, Tryz.ntmps62
   go_wp2
   all_goals
    go_ret
    refine ⟨congrArg (fun b => Ending.returned (Value.bool b)) ?_, Step.alloc _⟩
    rw [Bool.eq_iff_iff]
    simp only [bareB, Val.num, Val.s, Val.b, Val.f, Val.l, Bool.and_eq_true, Bool.or_eq_true, decide_eq_true_eq, List.isEmpty_iff, beq_iff_eq, Bool.false_eq_true, false_iff, true_iff, ← List.length_eq_zero_iff]
    try simp only [hsE] at *
    try simp only [beq_iff_eq, Bool.true_eq_false, Bool.false_eq_true] at *
    try simp only [true_or, or_true, true_and, and_true]
    try simp only [← List.length_eq_zero_iff] at *
    try simp only [false_or, true_or, true_and, and_true, decide_eq_true_eq]
    omega
set_option maxRecDepth 100000 in
set_option maxHeartbeats 2000000 in
theorem ref_bare_b {P : Nat → Prop} {x : Val} {cs : List Value} {w : World} (h : VIs P w x cs) : Calls Tryz.prog 62 #[.agg cs.toArray, .bool false, .bool false, .bool true, .bool false, .bool false] w (BoolP (bareB x false false true false false) w) := by
 obtain ⟨bv, fa, fc, la, lc, rfl, h2, h3, h4, h5, h6, h7⟩ := h.cells
 obtain ⟨ba, bc, rfl⟩ := h2.shape
 cases x with
 | mk k n s b f l =>
  simp only [Val.kind, Val.num, Val.s, Val.b, Val.f, Val.l] at *
  obtain ⟨h4a, h4b, h4c, h4d⟩ := h4
  obtain ⟨h5a, h5b, h5c, h5d⟩ := h5
  clear h h2 h3 h6 h7
  rcases Nat.eq_zero_or_pos s.length with hs0 | hs0
  ·have hsE : (strOf s).toList.isEmpty = true := by
    rw [show (strOf s).toList = s by simp [strOf, ByteArray.toList_eq]]; simpa using List.length_eq_zero_iff.1 hs0
   go_enter Tryz.func62, Tryz.ntmps62
   go_wp2
   all_goals
    go_ret
    refine ⟨congrArg (fun b => Ending.returned (Value.bool b)) ?_, Step.alloc _⟩
    rw [Bool.eq_iff_iff]
    simp only [bareB, Val.num, Val.s, Val.b, Val.f, Val.l, Bool.and_eq_true, Bool.or_eq_true, decide_eq_true_eq, List.isEmpty_iff, beq_iff_eq, Bool.false_eq_true, false_iff, true_iff, ← List.length_eq_zero_iff]
    try simp only [hsE] at *
    try simp only [beq_iff_eq, Bool.true_eq_false, Bool.false_eq_true] at *
    try simp only [true_or, or_true, true_and, and_true]
    try simp only [← List.length_eq_zero_iff] at *
    try simp only [false_or, true_or, true_and, and_true, decide_eq_true_eq]
    omega
  ·have hsE : (strOf s).toList.isEmpty = false := by
    rw [show (strOf s).toList = s by simp [strOf, ByteArray.toList_eq]]; cases s <;> simp at hs0 ⊢
   go_enter Tryz.func62, Tryz.ntmps62
   go_wp2
   all_goals
    go_ret
    refine ⟨congrArg (fun b => Ending.returned (Value.bool b)) ?_, Step.alloc _⟩
    rw [Bool.eq_iff_iff]
    simp only [bareB, Val.num, Val.s, Val.b, Val.f, Val.l, Bool.and_eq_true, Bool.or_eq_true, decide_eq_true_eq, List.isEmpty_iff, beq_iff_eq, Bool.false_eq_true, false_iff, true_iff, ← List.length_eq_zero_iff]
    try simp only [hsE] at *
    try simp only [beq_iff_eq, Bool.true_eq_false, Bool.false_eq_true] at *
    try simp only [true_or, or_true, true_and, and_true]
    try simp only [← List.length_eq_zero_iff] at *
    try simp only [false_or, true_or, true_and, and_true, decide_eq_true_eq]
    omega
set_option maxRecDepth 100000 in
set_option maxHeartbeats 2000000 in
theorem ref_bare_f {P : Nat → Prop} {x : Val} {cs : List Value} {w : World} (h : VIs P w x cs) : Calls Tryz.prog 62 #[.agg cs.toArray, .bool false, .bool false, .bool false, .bool true, .bool false] w (BoolP (bareB x false false false true false) w) := by
 obtain ⟨bv, fa, fc, la, lc, rfl, h2, h3, h4, h5, h6, h7⟩ := h.cells
 obtain ⟨ba, bc, rfl⟩ := h2.shape
 cases x with
 | mk k n s b f l =>
  simp only [Val.kind, Val.num, Val.s, Val.b, Val.f, Val.l] at *
  obtain ⟨h4a, h4b, h4c, h4d⟩ := h4
  obtain ⟨h5a, h5b, h5c, h5d⟩ := h5
  clear h h2 h3 h6 h7
  rcases Nat.eq_zero_or_pos s.length with hs0 | hs0
  ·have hsE : (strOf s).toList.isEmpty = true := by
    rw [show (strOf s).toList = s by simp [strOf, ByteArray.toList_eq]]; simpa using List.length_eq_zero_iff.1 hs0
   go_enter Tryz.func62, Tryz.ntmps62
   go_wp2
   all_goals
    go_ret
    refine ⟨congrArg (fun b => Ending.returned (Value.bool b)) ?_, Step.alloc _⟩
    rw [Bool.eq_iff_iff]
    simp only [bareB, Val.num, Val.s, Val.b, Val.f, Val.l, Bool.and_eq_true, Bool.or_eq_true, decide_eq_true_eq, List.isEmpty_iff, beq_iff_eq, Bool.false_eq_true, false_iff, true_iff, ← List.length_eq_zero_iff]
    try simp only [hsE] at *
    try simp only [beq_iff_eq, Bool.true_eq_false, Bool.false_eq_true] at *
    try simp only [true_or, or_true, true_and, and_true]
    try simp only [← List.length_eq_zero_iff] at *
    try simp only [false_or, true_or, true_and, and_true, decide_eq_true_eq]
    omega
  ·have hsE : (strOf s).toList.isEmpty = false := by
    rw [show (strOf s).toList = s by simp [strOf, ByteArray.toList_eq]]; cases s <;> simp at hs0 ⊢
   go_enter Tryz.func62, Tryz.ntmps62
   go_wp2
   all_goals
    go_ret
    refine ⟨congrArg (fun b => Ending.returned (Value.bool b)) ?_, Step.alloc _⟩
    rw [Bool.eq_iff_iff]
    simp only [bareB, Val.num, Val.s, Val.b, Val.f, Val.l, Bool.and_eq_true, Bool.or_eq_true, decide_eq_true_eq, List.isEmpty_iff, beq_iff_eq, Bool.false_eq_true, false_iff, true_iff, ← List.length_eq_zero_iff]
    try simp only [hsE] at *
    try simp only [beq_iff_eq, Bool.true_eq_false, Bool.false_eq_true] at *
    try simp only [true_or, or_true, true_and, and_true]
    try simp only [← List.length_eq_zero_iff] at *
    try simp only [false_or, true_or, true_and, and_true, decide_eq_true_eq]
    omega
set_option maxRecDepth 100000 in
set_option maxHeartbeats 2000000 in
theorem ref_bare_l {P : Nat → Prop} {x : Val} {cs : List Value} {w : World} (h : VIs P w x cs) : Calls Tryz.prog 62 #[.agg cs.toArray, .bool false, .bool false, .bool false, .bool false, .bool true] w (BoolP (bareB x false false false false true) w) := by
 obtain ⟨bv, fa, fc, la, lc, rfl, h2, h3, h4, h5, h6, h7⟩ := h.cells
 obtain ⟨ba, bc, rfl⟩ := h2.shape
 cases x with
 | mk k n s b f l =>
  simp only [Val.kind, Val.num, Val.s, Val.b, Val.f, Val.l] at *
  obtain ⟨h4a, h4b, h4c, h4d⟩ := h4
  obtain ⟨h5a, h5b, h5c, h5d⟩ := h5
  clear h h2 h3 h6 h7
  rcases Nat.eq_zero_or_pos s.length with hs0 | hs0
  ·have hsE : (strOf s).toList.isEmpty = true := by
    rw [show (strOf s).toList = s by simp [strOf, ByteArray.toList_eq]]; simpa using List.length_eq_zero_iff.1 hs0
   go_enter Tryz.func62, Tryz.ntmps62
   go_wp2
   all_goals
    go_ret
    refine ⟨congrArg (fun b => Ending.returned (Value.bool b)) ?_, Step.alloc _⟩
    rw [Bool.eq_iff_iff]
    simp only [bareB, Val.num, Val.s, Val.b, Val.f, Val.l, Bool.and_eq_true, Bool.or_eq_true, decide_eq_true_eq, List.isEmpty_iff, beq_iff_eq, Bool.false_eq_true, false_iff, true_iff, ← List.length_eq_zero_iff]
    try simp only [hsE] at *
    try simp only [beq_iff_eq, Bool.true_eq_false, Bool.false_eq_true] at *
    try simp only [true_or, or_true, true_and, and_true]
    try simp only [← List.length_eq_zero_iff] at *
    try simp only [false_or, true_or, true_and, and_true, decide_eq_true_eq]
    omega
  ·have hsE : (strOf s).toList.isEmpty = false := by
    rw [show (strOf s).toList = s by simp [strOf, ByteArray.toList_eq]]; cases s <;> simp at hs0 ⊢
   go_enter Tryz.func62, Tryz.ntmps62
   go_wp2
   all_goals
    go_ret
    refine ⟨congrArg (fun b => Ending.returned (Value.bool b)) ?_, Step.alloc _⟩
    rw [Bool.eq_iff_iff]
    simp only [bareB, Val.num, Val.s, Val.b, Val.f, Val.l, Bool.and_eq_true, Bool.or_eq_true, decide_eq_true_eq, List.isEmpty_iff, beq_iff_eq, Bool.false_eq_true, false_iff, true_iff, ← List.length_eq_zero_iff]
    try simp only [hsE] at *
    try simp only [beq_iff_eq, Bool.true_eq_false, Bool.false_eq_true] at *
    try simp only [true_or, or_true, true_and, and_true]
    try simp only [← List.length_eq_zero_iff] at *
    try simp only [false_or, true_or, true_and, and_true, decide_eq_true_eq]
    omega

set_option maxRecDepth 100000 in
set_option maxHeartbeats 2000000 in
theorem ref_namemay (l : Bs) (w : World) (hl : l.length ≤ 140737488351232) : Calls Tryz.prog 92 #[.string (strOf l)] w fun e w' => e = .returned (.bool (nameOk l)) ∧ w = w' := by
 have hu := ref_utf8 l w hl
 obtain ⟨S, hS⟩ : ∃ S, S = strOf l := ⟨_, rfl⟩
 have hsz : S.size = l.length := by rw [hS, strOf_size]
 have hget : ∀ k (h : k < S.size) (h2 : k < l.length), S[k].toNat = l[k].toNat := fun k h h2 => by
  subst hS
  rfl
 rw [← hS] at hu ⊢
 obtain ⟨L, hL⟩ : ∃ L, L = l.length := ⟨_, rfl⟩
 rw [← hL] at hsz hl
 have hszi : S.size ≤ 140737488351232 := by omega
 have huH := Lib.hid hu
 have hszH := Lib.hid hsz
 have hLH := Lib.hid hL
 have hgetH := Lib.hid hget
 clear hS hsz hL hget hu
 go_enter Tryz.func92, Tryz.ntmps92
 go_wp2_with fail
 go_loop [3] (fun i => ∃ j : Nat, i = .int .i64 j ∧ j ≤ L ∧ (0 : UInt8) ∉ l.take j) (fun i => L - (intOf i).toNat)
 case atStart => exact ⟨0, rfl, Nat.zero_le _, by simp⟩
 case round =>
  obtain ⟨j, rfl, hj, he⟩ := hrel
  have heH := Lib.hid he
  clear he
  have hsz := hszH.out
  by_cases hjl : j < L
  ·have hjs : j < S.size := by omega
   have hjs1 : (j : Int) < (S.size : Int) := by omega
   have hj0 : (0 : Int) ≤ (j : Int) := by omega
   have hjll : j < l.length := by rw [← hLH.out]; exact hjl
   obtain ⟨c, hc⟩ : ∃ c, c = l[j].toNat := ⟨_, rfl⟩
   have hcs : S[j].toNat = c := by rw [hc]; exact hgetH.out j hjs hjll
   have hwrap1 : IntKind.i64.wrap ((j : Int) + 1) = (j : Int) + 1 := IntWalk.i64_in _ (by omega)
   have htk : l.take (j + 1) = l.take j ++ [l[j]] := List.take_succ_eq_append_getElem hjll
   have hcH := Lib.hid hc
   have htkH := Lib.hid htk
   clear hc hsz htk
   by_cases h0 : c = 0
   ·have h0i : ((c : Int) == 0) = true := by rw [beq_iff_eq]; omega
    have hf : nameOk l = false := by
     have hm : (0 : UInt8) ∈ l := by
      have : l[j] = 0 := UInt8.toNat_inj.1 (by rw [← hcH.out, h0]; rfl)
      rw [← this]; exact List.getElem_mem hjll
     unfold nameOk; simp [hm]
    have hfH := Lib.hid hf
    have h0H := Lib.hid h0
    clear hf h0
    go_wp2_with fail
    go_ret
    exact ⟨by rw [hfH.out]; rfl, rfl⟩
   ·have h0i : ((c : Int) == 0) = false := by rw [beq_eq_false_iff_ne]; omega
    go_wp2_with fail
    refine ⟨⟨j + 1, by go_num, by omega, ?_⟩, by simp [intOf]; omega⟩
    rw [htkH.out, List.mem_append, List.mem_singleton, not_or]
    exact ⟨heH.out, fun e => h0 (by rw [hcH.out, ← e]; rfl)⟩
  ·have hjl1 : ¬ j < S.size := by omega
   have h0l : (0 : UInt8) ∉ l := by
    have := heH.out
    rwa [List.take_of_length_le (by rw [← hLH.out]; omega)] at this
   have h0H := Lib.hid h0l
   clear h0l
   by_cases h120 : L ≤ 120
   ·have hl1 : S.size ≤ 120 := by omega
    have hl2 : (S.size : Int) ≤ 120 := by omega
    clear hsz
    go_wp2_with (go_at_call 64; refine huH.out.mono ?_; rintro e w' ⟨rfl, rfl⟩)
    go_ret
    refine ⟨?_, rfl⟩
    have e : nameOk l = utf8 l := by unfold nameOk; rw [← hLH.out]; simp [h120, h0H.out]
    rw [e]; rfl
   ·have hl1 : ¬ S.size ≤ 120 := by omega
    have hl2 : ¬ (S.size : Int) ≤ 120 := by omega
    have hf : nameOk l = false := by unfold nameOk; rw [← hLH.out]; simp [h120]
    have hfH := Lib.hid hf
    clear hf hsz
    go_wp2_with fail
    go_ret
    exact ⟨by rw [hfH.out]; rfl, rfl⟩
end Go.Proofs.YtembpajlllnncaaGreatDoor
