/- AccumAdds: the reference: sign, Class, none, number, Of. AccumAdds: the reference: text. AccumAdds: the reference: Compare: values without parts. AccumAdds: the reference: Compare: texts, bytes, ids, and what has no parts. AccumAdds: the reference: Compare: bytes, ids. AccumAdds: the reference: Compare: lists. AccumAdds: the reference: Compare: documents. AccumAdds: the reference: Compare: any two values. -/
import Derived.Test.YtembpajlllnncaaGreatDoorAcO
import Derived.Test.YtembpajlllnncaaGreatDoorAcK1
import Derived.OwnWalk
import Derived.Test.YtembpajlllnncaaGreatDoorAcCi
set_option linter.unusedVariables false
set_option linter.unusedSimpArgs false
namespace Go.Proofs.YtembpajlllnncaaGreatDoor
open Go.RowKit

set_option maxRecDepth 100000 in
theorem ref_sign (a b : Int) (w : World) : Calls Tryz.prog 46 #[.int .i64 a, .int .i64 b] w fun e w' => e = .returned (.int .i64 (sgnI a b)) ∧ w = w' := by
 unfold sgnI
 by_cases h1 : a < b
 ·rw [if_pos h1]
  go_enter Tryz.func46, Tryz.ntmps46
  go_wp2
  go_ret
  exact ⟨rfl, rfl⟩
 rw [if_neg h1]
 by_cases h2 : b < a
 ·rw [if_pos h2]
  go_enter Tryz.func46, Tryz.ntmps46
  go_wp2
  go_ret
  exact ⟨rfl, rfl⟩
 ·rw [if_neg h2]
  go_enter Tryz.func46, Tryz.ntmps46
  go_wp2
  go_ret
  exact ⟨rfl, rfl⟩
set_option maxRecDepth 100000 in
theorem ref_class (k : Int) (w : World) : Calls Tryz.prog 47 #[.int .i64 k] w fun e w' => e = .returned (.int .i64 (clsOf k)) ∧ w = w' := by
 by_cases h0 : k < 0
 ·have hc : clsOf k = -1 := by unfold clsOf; rw [if_neg (by omega), if_neg (by omega), if_neg (by omega)]
  rw [hc]; clear hc
  go_enter Tryz.func47, Tryz.ntmps47
  go_wp2
  go_ret
  exact ⟨rfl, rfl⟩
 by_cases h12 : k > 12
 ·have hc : clsOf k = -1 := by unfold clsOf; rw [if_neg (by omega), if_neg (by omega), if_neg (by omega)]
  rw [hc]; clear hc
  go_enter Tryz.func47, Tryz.ntmps47
  go_wp2
  go_ret
  exact ⟨rfl, rfl⟩
 by_cases h3 : k ≤ 3
 ·have hc : clsOf k = k := by
   unfold clsOf
   by_cases h : k = 3
   ·rw [if_neg (by omega), if_pos (by omega)]; omega
   ·rw [if_pos (by omega)]
  rw [hc]; clear hc
  go_enter Tryz.func47, Tryz.ntmps47
  go_wp2
  go_ret
  exact ⟨rfl, rfl⟩
 ·have hc : clsOf k = k - 1 := by
   unfold clsOf
   by_cases h : k = 4
   ·rw [if_neg (by omega), if_pos (by omega)]; omega
   ·rw [if_neg (by omega), if_neg (by omega), if_pos (by omega)]
  rw [hc]; clear hc
  have hwr : IntKind.i64.wrap (k - 1) = k - 1 := IntWalk.i64_in _ (by omega)
  go_enter Tryz.func47, Tryz.ntmps47
  go_wp2
  go_ret
  exact ⟨rfl, rfl⟩
set_option maxRecDepth 100000 in
theorem ref_none10 {k : Int} {n s b f l : Value} (w : World) : Calls Tryz.prog 33 #[.agg #[.int .i64 k, n, s, b, f, l]] w fun e w' => e = .returned (.bool (decide (k = 0 ∨ k = 2))) ∧ Step [] id id w w' := by
 by_cases ha : k = 0
 ·have hb : (k == 0) = true := by rw [ha]; rfl
  rw [decide_eq_true (by omega)]
  clear ha
  go_enter Tryz.func33, Tryz.ntmps33
  go_wp2_with fail
  go_ret
  exact ⟨rfl, Step.alloc _⟩
 have hb : (k == 0) = false := by rw [beq_eq_false_iff_ne]; exact ha
 by_cases hc : k = 2
 ·have hb2 : (k == 2) = true := by rw [hc]; rfl
  rw [decide_eq_true (by omega)]
  clear ha hc
  go_enter Tryz.func33, Tryz.ntmps33
  go_wp2_with fail
  go_ret
  exact ⟨rfl, Step.alloc _⟩
 ·have hb2 : (k == 2) = false := by rw [beq_eq_false_iff_ne]; exact hc
  rw [decide_eq_false (by omega)]
  clear ha hc
  go_enter Tryz.func33, Tryz.ntmps33
  go_wp2_with fail
  go_ret
  exact ⟨rfl, Step.alloc _⟩
set_option maxRecDepth 100000 in
theorem ref_none5 {k : Int} {n s b f l : Value} (w : World) : Calls Tryz.prog 44 #[.agg #[.int .i64 k, n, s, b, f, l]] w fun e w' => e = .returned (.bool (decide (k = 2 ∨ k = 0))) ∧ Step [] id id w w' := by
 by_cases ha : k = 2
 ·have hb : (k == 2) = true := by rw [ha]; rfl
  rw [decide_eq_true (by omega)]
  clear ha
  go_enter Tryz.func44, Tryz.ntmps44
  go_wp2_with fail
  go_ret
  exact ⟨rfl, Step.alloc _⟩
 have hb : (k == 2) = false := by rw [beq_eq_false_iff_ne]; exact ha
 by_cases hc : k = 0
 ·have hb2 : (k == 0) = true := by rw [hc]; rfl
  rw [decide_eq_true (by omega)]
  clear ha hc
  go_enter Tryz.func44, Tryz.ntmps44
  go_wp2_with fail
  go_ret
  exact ⟨rfl, Step.alloc _⟩
 ·have hb2 : (k == 0) = false := by rw [beq_eq_false_iff_ne]; exact hc
  rw [decide_eq_false (by omega)]
  clear ha hc
  go_enter Tryz.func44, Tryz.ntmps44
  go_wp2_with fail
  go_ret
  exact ⟨rfl, Step.alloc _⟩
set_option maxRecDepth 100000 in
theorem ref_number {k : Int} {n s b f l : Value} (w : World) : Calls Tryz.prog 45 #[.agg #[.int .i64 k, n, s, b, f, l]] w fun e w' => e = .returned (.bool (decide (k = 3 ∨ k = 4))) ∧ Step [] id id w w' := by
 by_cases ha : k = 3
 ·have hb : (k == 3) = true := by rw [ha]; rfl
  rw [decide_eq_true (by omega)]
  clear ha
  go_enter Tryz.func45, Tryz.ntmps45
  go_wp2_with fail
  go_ret
  exact ⟨rfl, Step.alloc _⟩
 have hb : (k == 3) = false := by rw [beq_eq_false_iff_ne]; exact ha
 by_cases hc : k = 4
 ·have hb2 : (k == 4) = true := by rw [hc]; rfl
  rw [decide_eq_true (by omega)]
  clear ha hc
  go_enter Tryz.func45, Tryz.ntmps45
  go_wp2_with fail
  go_ret
  exact ⟨rfl, Step.alloc _⟩
 ·have hb2 : (k == 4) = false := by rw [beq_eq_false_iff_ne]; exact hc
  rw [decide_eq_false (by omega)]
  clear ha hc
  go_enter Tryz.func45, Tryz.ntmps45
  go_wp2_with fail
  go_ret
  exact ⟨rfl, Step.alloc _⟩
set_option maxRecDepth 100000 in
set_option maxHeartbeats 2000000 in
theorem ref_of (n : Int) (w : World) : Calls Tryz.prog 30 #[.int .i64 n] w fun e w' => e = .returned (.agg #[.int .i64 (kindI n), .int .i64 n, (.string ⟨#[]⟩), (.slice none 0 0), (.slice none 0 0), (.slice none 0 0)]) ∧ Step [] id id w w' := by
 unfold kindI
 by_cases h1 : -2147483648 ≤ n
 ·by_cases h2 : n < 2147483648
  ·rw [if_pos ⟨h1, by omega⟩]
   go_enter Tryz.func30, Tryz.ntmps30
   go_wp2_with fail
   have hvb := heap_alloc_new w (.cells #[.int .i64 3, .int .i64 n, (.string ⟨#[]⟩), (.slice none 0 0), (.slice none 0 0), (.slice none 0 0)] 35)
   exact bodyPost_ret (results_v rfl rfl hvb) rfl ⟨rfl, Step.alloc _⟩
  ·rw [if_neg (by omega)]
   go_enter Tryz.func30, Tryz.ntmps30
   go_wp2_with fail
   have hvb := heap_alloc_new w (.cells #[.int .i64 4, .int .i64 n, (.string ⟨#[]⟩), (.slice none 0 0), (.slice none 0 0), (.slice none 0 0)] 35)
   exact bodyPost_ret (results_v rfl rfl hvb) rfl ⟨rfl, Step.alloc _⟩
 ·rw [if_neg (by omega)]
  go_enter Tryz.func30, Tryz.ntmps30
  go_wp2_with fail
  have hvb := heap_alloc_new w (.cells #[.int .i64 4, .int .i64 n, (.string ⟨#[]⟩), (.slice none 0 0), (.slice none 0 0), (.slice none 0 0)] 35)
  exact bodyPost_ret (results_v rfl rfl hvb) rfl ⟨rfl, Step.alloc _⟩
end Go.Proofs.YtembpajlllnncaaGreatDoor
namespace Go.Proofs.YtembpajlllnncaaGreatDoor
open Go.RowKit

theorem cmpB_drop {a b : Bs} {j : Nat} (ha : j < a.length) (hb : j < b.length) : cmpB (a.drop j) (b.drop j) = if a[j] < b[j] then -1 else if b[j] < a[j] then 1 else cmpB (a.drop (j + 1)) (b.drop (j + 1)) := by
 rw [List.drop_eq_getElem_cons ha, List.drop_eq_getElem_cons hb, cmpB]
theorem cmpB_rest {a b : Bs} {j : Nat} (h : a.length ≤ j ∨ b.length ≤ j) (ha : j ≤ a.length) (hb : j ≤ b.length) : cmpB (a.drop j) (b.drop j) = sgnI a.length b.length := by
 unfold sgnI
 by_cases h1 : a.length ≤ j
 ·rw [List.drop_of_length_le h1]
  by_cases h2 : b.length ≤ j
  ·rw [List.drop_of_length_le h2, if_neg (by omega), if_neg (by omega)]; rfl
  ·rw [List.drop_eq_getElem_cons (by omega), if_pos (by omega)]; rfl
 ·rw [List.drop_of_length_le (h.resolve_left h1), List.drop_eq_getElem_cons (by omega), if_neg (by omega), if_pos (by omega)]; rfl
set_option maxRecDepth 100000 in
set_option maxHeartbeats 4000000 in
theorem ref_text (a b : Bs) (w : World) (ha : a.length ≤ 140737488351232) (hb : b.length ≤ 140737488351232) : Calls Tryz.prog 48 #[.string (strOf a), .string (strOf b)] w fun e w' => e = .returned (.int .i64 (cmpB a b)) ∧ Step [] id id w w' := by
 have hsg := Lib.hid (fun x y W => ref_sign x y W)
 obtain ⟨C, hC⟩ : ∃ C, C = cmpB a b := ⟨_, rfl⟩
 rw [← hC]
 have hCH := Lib.hid (show C = cmpB (a.drop 0) (b.drop 0) from hC)
 clear hC
 obtain ⟨A, hA⟩ : ∃ A, A = strOf a := ⟨_, rfl⟩
 obtain ⟨B, hB⟩ : ∃ B, B = strOf b := ⟨_, rfl⟩
 have hAs : A.size = a.length := by rw [hA, strOf_size]
 have hBs : B.size = b.length := by rw [hB, strOf_size]
 rw [← hA, ← hB]
 have hAH := Lib.hid hA
 have hBH := Lib.hid hB
 clear hA hB
 go_enter Tryz.func48, Tryz.ntmps48
 go_wp2_with fail
 go_loopw [5] (fun i wr => ∃ j : Nat, i = .int .i64 j ∧ j ≤ a.length ∧ j ≤ b.length ∧ C = cmpB (a.drop j) (b.drop j) ∧ Step [] id id w wr) (fun i _ => a.length - (intOf i).toNat)
 case atStart => exact ⟨0, rfl, Nat.zero_le _, Nat.zero_le _, hCH.out, Step.refl _ _ _⟩
 case round =>
  obtain ⟨j, rfl, hj1, hj2, hc, hst⟩ := hrel
  have hcH := Lib.hid hc
  have hstH := Lib.hid hst
  clear hc hst
  by_cases hja : j < a.length
  ·have hja1 : (j : Int) < (a.length : Int) := by omega
   by_cases hjb : j < b.length
   ·have hjb1 : (j : Int) < (b.length : Int) := by omega
    have hxa : A[j]'(by omega) = a[j] := by simp [hAH.out, strOf, ByteArray.getElem_eq_getElem_data]
    have hxb : B[j]'(by omega) = b[j] := by simp [hBH.out, strOf, ByteArray.getElem_eq_getElem_data]
    have hstep := cmpB_drop hja hjb
    rw [← hcH.out] at hstep
    obtain ⟨X, hX⟩ : ∃ X, X = a[j] := ⟨_, rfl⟩
    obtain ⟨Y, hY⟩ : ∃ Y, Y = b[j] := ⟨_, rfl⟩
    rw [← hX] at hxa hstep
    rw [← hY] at hxb hstep
    have hsH := Lib.hid hstep
    have hwrap : IntKind.i64.wrap ((j : Int) + 1) = (j : Int) + 1 := IntWalk.i64_in _ (by omega)
    have hX8 : X.toNat < 256 := X.toNat_lt
    have hY8 : Y.toNat < 256 := Y.toNat_lt
    have hwX : IntKind.i64.wrap (X.toNat : Int) = X.toNat := IntWalk.i64_in _ (by omega)
    have hwY : IntKind.i64.wrap (Y.toNat : Int) = Y.toNat := IntWalk.i64_in _ (by omega)
    clear hstep hX hY
    by_cases hXY : X = Y
    ·subst hXY
     have hne : ((X.toNat : Int) != (X.toNat : Int)) = false := by simp
     have hs2 := hsH.out
     rw [if_neg (UInt8.lt_irrefl X), if_neg (UInt8.lt_irrefl X)] at hs2
     have hs2H := Lib.hid hs2
     clear hs2
     go_wp2_with fail
     go_quiet (fail)
     go_wp2_with fail
     go_roundw
     case rel => exact ⟨j + 1, by go_num, by omega, by omega, hs2H.out, hstH.out.tail (Step.drewN _ _)⟩
     case measure => simp [intOf]; omega
    ·have hnt : X.toNat ≠ Y.toNat := fun e => hXY (UInt8.toNat_inj.1 e)
     have hne : ((X.toNat : Int) != (Y.toNat : Int)) = true := by rw [bne_iff_ne]; omega
     have hres := Lib.hid (show C = sgnI (X.toNat : Int) (Y.toNat : Int) by
      rw [hsH.out]
      unfold sgnI
      by_cases h1 : X < Y
      ·rw [if_pos h1, if_pos (by have := UInt8.lt_iff_toNat_lt.1 h1; omega)]
      ·have h1' : ¬ X.toNat < Y.toNat := fun h => h1 (UInt8.lt_iff_toNat_lt.2 h)
       have h2 : Y < X := UInt8.lt_iff_toNat_lt.2 (by omega)
       rw [if_neg h1, if_pos h2, if_neg (by omega), if_pos (by have := UInt8.lt_iff_toNat_lt.1 h2; omega)])
     clear hnt
     go_wp2_with fail
     go_quiet (fail)
     go_wp2_with fail
     go_quiet ((go_at_call 46; exact quietAddL (hsg.out _ _ _)))
     go_wp2_with fail
     go_ret
     exact ⟨by rw [hres.out]; rfl, (hstH.out.tail (Step.drewN _ _)).tail (Step.drewN _ _)⟩
   ·have hjb1 : ¬ (j : Int) < (b.length : Int) := by omega
    have hres := Lib.hid (hcH.out.trans (cmpB_rest (.inr (by omega)) hj1 hj2))
    go_wp2_with fail
    refine (hsg.out _ _ _).mono ?_
    rintro e w' ⟨rfl, rfl⟩
    go_wp2_with fail
    go_ret
    exact ⟨by rw [hres.out]; rfl, hstH.out⟩
  ·have hja1 : ¬ (j : Int) < (a.length : Int) := by omega
   have hres := Lib.hid (hcH.out.trans (cmpB_rest (.inl (by omega)) hj1 hj2))
   go_wp2_with fail
   refine (hsg.out _ _ _).mono ?_
   rintro e w' ⟨rfl, rfl⟩
   go_wp2_with fail
   go_ret
   exact ⟨by rw [hres.out]; rfl, hstH.out⟩
end Go.Proofs.YtembpajlllnncaaGreatDoor
namespace Go.Proofs.YtembpajlllnncaaGreatDoor
open Go.RowKit

/-- The reference compares these two as it should. -/
def RCmpH (y z : Val) : Prop := ∀ (Q Q' : Nat → Prop) (W : World) (cs ds : List Value), VIs Q W y cs → VIs Q' W z ds → Calls Tryz.prog 34 #[.agg cs.toArray, .agg ds.toArray] W fun e w' => e = .returned (.int .i64 (cmpV y z)) ∧ Step [] id id W w'
set_option maxRecDepth 100000 in
set_option maxHeartbeats 4000000 in
theorem rcmp_class {w : World} {k1 n1 k2 n2 : Int} {s1 b1 f1 l1 s2 b2 f2 l2 : Value} (h : clsOf k1 ≠ clsOf k2) :
  Calls Tryz.prog 34 #[.agg #[.int .i64 k1, .int .i64 n1, s1, b1, f1, l1], .agg #[.int .i64 k2, .int .i64 n2, s2, b2, f2, l2]] w fun e w' => e = .returned (.int .i64 (sgnI (clsOf k1) (clsOf k2))) ∧ Step [] id id w w' := by
 have hcl := Lib.hid (fun k W => ref_class k W)
 have hsg := Lib.hid (fun a b W => ref_sign a b W)
 obtain ⟨c1, hc1⟩ : ∃ c, c = clsOf k1 := ⟨_, rfl⟩
 obtain ⟨c2, hc2⟩ : ∃ c, c = clsOf k2 := ⟨_, rfl⟩
 obtain ⟨S, hS⟩ : ∃ S, S = sgnI c1 c2 := ⟨_, rfl⟩
 have hc1H := Lib.hid hc1
 have hc2H := Lib.hid hc2
 have hSH := Lib.hid hS
 clear hc1 hc2 hS
 rw [← hc1H.out, ← hc2H.out, ← hSH.out]
 have hS0 : (S != 0) = true := by
  rw [bne_iff_ne, hSH.out]
  rw [← hc1H.out, ← hc2H.out] at h
  unfold sgnI
  split
  ·omega
  ·split <;> omega
 clear h
 go_enter Tryz.func34, Tryz.ntmps34
 go_wp2_with fail
 go_quiet ((first | (go_at_call 47; exact quietL (hcl.out _ _)) | (go_at_call 46; exact quietL (hsg.out _ _ _))))
 rw [← hc1H.out, ← hc2H.out, ← hSH.out]
 obtain ⟨W3, hW3⟩ : ∃ W3, W3 = (((w.alloc (.cells #[.int .i64 k1, .int .i64 n1, s1, b1, f1, l1] 35)).alloc (.cells #[.int .i64 k2, .int .i64 n2, s2, b2, f2, l2] 35)).drewN nq) := ⟨_, rfl⟩
 rw [← hW3]
 have hA : Step [] id id w W3 := by rw [hW3]; exact ((Step.alloc _).tail (Step.alloc _)).tail (Step.drewN _ _)
 have hb0 : W3.heap[w.heap.size]? = some (.cells #[.int .i64 k1, .int .i64 n1, s1, b1, f1, l1] 35 (0, 0)) := by rw [hW3]; exact drewN_blk (alloc_old (heap_alloc_new w _))
 have hb1 : W3.heap[w.heap.size + 1]? = some (.cells #[.int .i64 k2, .int .i64 n2, s2, b2, f2, l2] 35 (0, 0)) := by
  rw [hW3]; refine drewN_blk ?_
  have := heap_alloc_new (w.alloc (.cells #[.int .i64 k1, .int .i64 n1, s1, b1, f1, l1] 35)) (.cells #[.int .i64 k2, .int .i64 n2, s2, b2, f2, l2] 35)
  rwa [show (w.alloc (.cells #[.int .i64 k1, .int .i64 n1, s1, b1, f1, l1] 35)).heap.size = w.heap.size + 1 by simp] at this
 obtain ⟨a0, a1, a2, a3, a4, a5⟩ := cells6A hb0
 obtain ⟨d0, d1, d2, d3, d4, d5⟩ := cells6A hb1
 have lt0 := lt_of_block hb0
 have lt1 := lt_of_block hb1
 have hAH := Lib.hid hA
 clear hW3 hA hb0 hb1
 go_wp2_with fail
 go_ret
 exact ⟨rfl, hAH.out⟩
set_option maxRecDepth 100000 in
set_option maxHeartbeats 4000000 in
theorem rcmp_num {w : World} {k1 n1 k2 n2 : Int} {s1 b1 f1 l1 s2 b2 f2 l2 : Value} (h : clsOf k1 = clsOf k2) (hk : k1 = 3 ∨ k1 = 4 ∨ k1 = 10 ∨ k1 = 11) :
  Calls Tryz.prog 34 #[.agg #[.int .i64 k1, .int .i64 n1, s1, b1, f1, l1], .agg #[.int .i64 k2, .int .i64 n2, s2, b2, f2, l2]] w fun e w' => e = .returned (.int .i64 (sgnI n1 n2)) ∧ Step [] id id w w' := by
 have hcl := Lib.hid (fun k W => ref_class k W)
 have hsg := Lib.hid (fun a b W => ref_sign a b W)
 obtain ⟨c1, hc1⟩ : ∃ c, c = clsOf k1 := ⟨_, rfl⟩
 obtain ⟨c2, hc2⟩ : ∃ c, c = clsOf k2 := ⟨_, rfl⟩
 obtain ⟨S, hS⟩ : ∃ S, S = sgnI c1 c2 := ⟨_, rfl⟩
 have hc1H := Lib.hid hc1
 have hc2H := Lib.hid hc2
 have hSH := Lib.hid hS
 clear hc1 hc2 hS
 rcases hk with hk | hk | hk | hk
 ·have e3 : (k1 == 3) = true := by rw [hk]; rfl
  have e4 : (k1 == 4) = false := by rw [hk]; rfl
  have e10 : (k1 == 10) = false := by rw [hk]; rfl
  have e11 : (k1 == 11) = false := by rw [hk]; rfl
  clear hk
  have hS0 : (S != 0) = false := by rw [hSH.out, hc1H.out, hc2H.out, ← h, sgnI_self]; rfl
  clear h
  go_enter Tryz.func34, Tryz.ntmps34
  go_wp2_with fail
  go_quiet ((first | (go_at_call 47; exact quietL (hcl.out _ _)) | (go_at_call 46; exact quietL (hsg.out _ _ _))))
  rw [← hc1H.out, ← hc2H.out, ← hSH.out]
  obtain ⟨W3, hW3⟩ : ∃ W3, W3 = (((w.alloc (.cells #[.int .i64 k1, .int .i64 n1, s1, b1, f1, l1] 35)).alloc (.cells #[.int .i64 k2, .int .i64 n2, s2, b2, f2, l2] 35)).drewN nq) := ⟨_, rfl⟩
  rw [← hW3]
  have hA : Step [] id id w W3 := by rw [hW3]; exact ((Step.alloc _).tail (Step.alloc _)).tail (Step.drewN _ _)
  have hb0 : W3.heap[w.heap.size]? = some (.cells #[.int .i64 k1, .int .i64 n1, s1, b1, f1, l1] 35 (0, 0)) := by rw [hW3]; exact drewN_blk (alloc_old (heap_alloc_new w _))
  have hb1 : W3.heap[w.heap.size + 1]? = some (.cells #[.int .i64 k2, .int .i64 n2, s2, b2, f2, l2] 35 (0, 0)) := by
   rw [hW3]; refine drewN_blk ?_
   have := heap_alloc_new (w.alloc (.cells #[.int .i64 k1, .int .i64 n1, s1, b1, f1, l1] 35)) (.cells #[.int .i64 k2, .int .i64 n2, s2, b2, f2, l2] 35)
   rwa [show (w.alloc (.cells #[.int .i64 k1, .int .i64 n1, s1, b1, f1, l1] 35)).heap.size = w.heap.size + 1 by simp] at this
  obtain ⟨a0, a1, a2, a3, a4, a5⟩ := cells6A hb0
  obtain ⟨d0, d1, d2, d3, d4, d5⟩ := cells6A hb1
  have lt0 := lt_of_block hb0
  have lt1 := lt_of_block hb1
  have hAH := Lib.hid hA
  clear hW3 hA hb0 hb1
  go_wp2_with fail
  refine (hsg.out _ _ _).mono ?_
  rintro e w' ⟨rfl, rfl⟩
  go_wp2_with fail
  go_ret
  exact ⟨rfl, hAH.out⟩
 ·have e3 : (k1 == 3) = false := by rw [hk]; rfl
  have e4 : (k1 == 4) = true := by rw [hk]; rfl
  have e10 : (k1 == 10) = false := by rw [hk]; rfl
  have e11 : (k1 == 11) = false := by rw [hk]; rfl
  clear hk
  have hS0 : (S != 0) = false := by rw [hSH.out, hc1H.out, hc2H.out, ← h, sgnI_self]; rfl
  clear h
  go_enter Tryz.func34, Tryz.ntmps34
  go_wp2_with fail
  go_quiet ((first | (go_at_call 47; exact quietL (hcl.out _ _)) | (go_at_call 46; exact quietL (hsg.out _ _ _))))
  rw [← hc1H.out, ← hc2H.out, ← hSH.out]
  obtain ⟨W3, hW3⟩ : ∃ W3, W3 = (((w.alloc (.cells #[.int .i64 k1, .int .i64 n1, s1, b1, f1, l1] 35)).alloc (.cells #[.int .i64 k2, .int .i64 n2, s2, b2, f2, l2] 35)).drewN nq) := ⟨_, rfl⟩
  rw [← hW3]
  have hA : Step [] id id w W3 := by rw [hW3]; exact ((Step.alloc _).tail (Step.alloc _)).tail (Step.drewN _ _)
  have hb0 : W3.heap[w.heap.size]? = some (.cells #[.int .i64 k1, .int .i64 n1, s1, b1, f1, l1] 35 (0, 0)) := by rw [hW3]; exact drewN_blk (alloc_old (heap_alloc_new w _))
  have hb1 : W3.heap[w.heap.size + 1]? = some (.cells #[.int .i64 k2, .int .i64 n2, s2, b2, f2, l2] 35 (0, 0)) := by
   rw [hW3]; refine drewN_blk ?_
   have := heap_alloc_new (w.alloc (.cells #[.int .i64 k1, .int .i64 n1, s1, b1, f1, l1] 35)) (.cells #[.int .i64 k2, .int .i64 n2, s2, b2, f2, l2] 35)
   rwa [show (w.alloc (.cells #[.int .i64 k1, .int .i64 n1, s1, b1, f1, l1] 35)).heap.size = w.heap.size + 1 by simp] at this
  obtain ⟨a0, a1, a2, a3, a4, a5⟩ := cells6A hb0
  obtain ⟨d0, d1, d2, d3, d4, d5⟩ := cells6A hb1
  have lt0 := lt_of_block hb0
  have lt1 := lt_of_block hb1
  have hAH := Lib.hid hA
  clear hW3 hA hb0 hb1
  go_wp2_with fail
  refine (hsg.out _ _ _).mono ?_
  rintro e w' ⟨rfl, rfl⟩
  go_wp2_with fail
  go_ret
  exact ⟨rfl, hAH.out⟩
 ·have e3 : (k1 == 3) = false := by rw [hk]; rfl
  have e4 : (k1 == 4) = false := by rw [hk]; rfl
  have e10 : (k1 == 10) = true := by rw [hk]; rfl
  have e11 : (k1 == 11) = false := by rw [hk]; rfl
  clear hk
  have hS0 : (S != 0) = false := by rw [hSH.out, hc1H.out, hc2H.out, ← h, sgnI_self]; rfl
  clear h
  go_enter Tryz.func34, Tryz.ntmps34
  go_wp2_with fail
  go_quiet ((first | (go_at_call 47; exact quietL (hcl.out _ _)) | (go_at_call 46; exact quietL (hsg.out _ _ _))))
  rw [← hc1H.out, ← hc2H.out, ← hSH.out]
  obtain ⟨W3, hW3⟩ : ∃ W3, W3 = (((w.alloc (.cells #[.int .i64 k1, .int .i64 n1, s1, b1, f1, l1] 35)).alloc (.cells #[.int .i64 k2, .int .i64 n2, s2, b2, f2, l2] 35)).drewN nq) := ⟨_, rfl⟩
  rw [← hW3]
  have hA : Step [] id id w W3 := by rw [hW3]; exact ((Step.alloc _).tail (Step.alloc _)).tail (Step.drewN _ _)
  have hb0 : W3.heap[w.heap.size]? = some (.cells #[.int .i64 k1, .int .i64 n1, s1, b1, f1, l1] 35 (0, 0)) := by rw [hW3]; exact drewN_blk (alloc_old (heap_alloc_new w _))
  have hb1 : W3.heap[w.heap.size + 1]? = some (.cells #[.int .i64 k2, .int .i64 n2, s2, b2, f2, l2] 35 (0, 0)) := by
   rw [hW3]; refine drewN_blk ?_
   have := heap_alloc_new (w.alloc (.cells #[.int .i64 k1, .int .i64 n1, s1, b1, f1, l1] 35)) (.cells #[.int .i64 k2, .int .i64 n2, s2, b2, f2, l2] 35)
   rwa [show (w.alloc (.cells #[.int .i64 k1, .int .i64 n1, s1, b1, f1, l1] 35)).heap.size = w.heap.size + 1 by simp] at this
  obtain ⟨a0, a1, a2, a3, a4, a5⟩ := cells6A hb0
  obtain ⟨d0, d1, d2, d3, d4, d5⟩ := cells6A hb1
  have lt0 := lt_of_block hb0
  have lt1 := lt_of_block hb1
  have hAH := Lib.hid hA
  clear hW3 hA hb0 hb1
  go_wp2_with fail
  refine (hsg.out _ _ _).mono ?_
  rintro e w' ⟨rfl, rfl⟩
  go_wp2_with fail
  go_ret
  exact ⟨rfl, hAH.out⟩
 ·have e3 : (k1 == 3) = false := by rw [hk]; rfl
  have e4 : (k1 == 4) = false := by rw [hk]; rfl
  have e10 : (k1 == 10) = false := by rw [hk]; rfl
  have e11 : (k1 == 11) = true := by rw [hk]; rfl
  clear hk
  have hS0 : (S != 0) = false := by rw [hSH.out, hc1H.out, hc2H.out, ← h, sgnI_self]; rfl
  clear h
  go_enter Tryz.func34, Tryz.ntmps34
  go_wp2_with fail
  go_quiet ((first | (go_at_call 47; exact quietL (hcl.out _ _)) | (go_at_call 46; exact quietL (hsg.out _ _ _))))
  rw [← hc1H.out, ← hc2H.out, ← hSH.out]
  obtain ⟨W3, hW3⟩ : ∃ W3, W3 = (((w.alloc (.cells #[.int .i64 k1, .int .i64 n1, s1, b1, f1, l1] 35)).alloc (.cells #[.int .i64 k2, .int .i64 n2, s2, b2, f2, l2] 35)).drewN nq) := ⟨_, rfl⟩
  rw [← hW3]
  have hA : Step [] id id w W3 := by rw [hW3]; exact ((Step.alloc _).tail (Step.alloc _)).tail (Step.drewN _ _)
  have hb0 : W3.heap[w.heap.size]? = some (.cells #[.int .i64 k1, .int .i64 n1, s1, b1, f1, l1] 35 (0, 0)) := by rw [hW3]; exact drewN_blk (alloc_old (heap_alloc_new w _))
  have hb1 : W3.heap[w.heap.size + 1]? = some (.cells #[.int .i64 k2, .int .i64 n2, s2, b2, f2, l2] 35 (0, 0)) := by
   rw [hW3]; refine drewN_blk ?_
   have := heap_alloc_new (w.alloc (.cells #[.int .i64 k1, .int .i64 n1, s1, b1, f1, l1] 35)) (.cells #[.int .i64 k2, .int .i64 n2, s2, b2, f2, l2] 35)
   rwa [show (w.alloc (.cells #[.int .i64 k1, .int .i64 n1, s1, b1, f1, l1] 35)).heap.size = w.heap.size + 1 by simp] at this
  obtain ⟨a0, a1, a2, a3, a4, a5⟩ := cells6A hb0
  obtain ⟨d0, d1, d2, d3, d4, d5⟩ := cells6A hb1
  have lt0 := lt_of_block hb0
  have lt1 := lt_of_block hb1
  have hAH := Lib.hid hA
  clear hW3 hA hb0 hb1
  go_wp2_with fail
  refine (hsg.out _ _ _).mono ?_
  rintro e w' ⟨rfl, rfl⟩
  go_wp2_with fail
  go_ret
  exact ⟨rfl, hAH.out⟩
end Go.Proofs.YtembpajlllnncaaGreatDoor
namespace Go.Proofs.YtembpajlllnncaaGreatDoor
open Go.RowKit

set_option maxRecDepth 100000 in
set_option maxHeartbeats 4000000 in
theorem rcmp_none {w : World} {k1 n1 k2 n2 : Int} {s1 b1 f1 l1 s2 b2 f2 l2 : Value} (h : clsOf k1 = clsOf k2) (hk : ¬ (k1 = 3 ∨ k1 = 4 ∨ k1 = 10 ∨ k1 = 11) ∧ ¬ (5 ≤ k1 ∧ k1 ≤ 9)) :
  Calls Tryz.prog 34 #[.agg #[.int .i64 k1, .int .i64 n1, s1, b1, f1, l1], .agg #[.int .i64 k2, .int .i64 n2, s2, b2, f2, l2]] w fun e w' => e = .returned (.int .i64 0) ∧ Step [] id id w w' := by
 have hcl := Lib.hid (fun k W => ref_class k W)
 have hsg := Lib.hid (fun a b W => ref_sign a b W)
 obtain ⟨c1, hc1⟩ : ∃ c, c = clsOf k1 := ⟨_, rfl⟩
 obtain ⟨c2, hc2⟩ : ∃ c, c = clsOf k2 := ⟨_, rfl⟩
 obtain ⟨S, hS⟩ : ∃ S, S = sgnI c1 c2 := ⟨_, rfl⟩
 have hc1H := Lib.hid hc1
 have hc2H := Lib.hid hc2
 have hSH := Lib.hid hS
 clear hc1 hc2 hS
 have e3 : (k1 == 3) = false := by rw [beq_eq_false_iff_ne]; omega
 have e4 : (k1 == 4) = false := by rw [beq_eq_false_iff_ne]; omega
 have e10 : (k1 == 10) = false := by rw [beq_eq_false_iff_ne]; omega
 have e11 : (k1 == 11) = false := by rw [beq_eq_false_iff_ne]; omega
 have e5 : (k1 == 5) = false := by rw [beq_eq_false_iff_ne]; omega
 have e8 : (k1 == 8) = false := by rw [beq_eq_false_iff_ne]; omega
 have e9 : (k1 == 9) = false := by rw [beq_eq_false_iff_ne]; omega
 have e6 : (k1 == 6) = false := by rw [beq_eq_false_iff_ne]; omega
 have e7 : (k1 == 7) = false := by rw [beq_eq_false_iff_ne]; omega
 have hS0 : (S != 0) = false := by rw [hSH.out, hc1H.out, hc2H.out, ← h, sgnI_self]; rfl
 clear h hk
 go_enter Tryz.func34, Tryz.ntmps34
 go_wp2_with fail
 go_quiet ((first | (go_at_call 47; exact quietL (hcl.out _ _)) | (go_at_call 46; exact quietL (hsg.out _ _ _))))
 rw [← hc1H.out, ← hc2H.out, ← hSH.out]
 obtain ⟨W3, hW3⟩ : ∃ W3, W3 = (((w.alloc (.cells #[.int .i64 k1, .int .i64 n1, s1, b1, f1, l1] 35)).alloc (.cells #[.int .i64 k2, .int .i64 n2, s2, b2, f2, l2] 35)).drewN nq) := ⟨_, rfl⟩
 rw [← hW3]
 have hA : Step [] id id w W3 := by rw [hW3]; exact ((Step.alloc _).tail (Step.alloc _)).tail (Step.drewN _ _)
 have hb0 : W3.heap[w.heap.size]? = some (.cells #[.int .i64 k1, .int .i64 n1, s1, b1, f1, l1] 35 (0, 0)) := by rw [hW3]; exact drewN_blk (alloc_old (heap_alloc_new w _))
 have hb1 : W3.heap[w.heap.size + 1]? = some (.cells #[.int .i64 k2, .int .i64 n2, s2, b2, f2, l2] 35 (0, 0)) := by
  rw [hW3]; refine drewN_blk ?_
  have := heap_alloc_new (w.alloc (.cells #[.int .i64 k1, .int .i64 n1, s1, b1, f1, l1] 35)) (.cells #[.int .i64 k2, .int .i64 n2, s2, b2, f2, l2] 35)
  rwa [show (w.alloc (.cells #[.int .i64 k1, .int .i64 n1, s1, b1, f1, l1] 35)).heap.size = w.heap.size + 1 by simp] at this
 obtain ⟨a0, a1, a2, a3, a4, a5⟩ := cells6A hb0
 obtain ⟨d0, d1, d2, d3, d4, d5⟩ := cells6A hb1
 have lt0 := lt_of_block hb0
 have lt1 := lt_of_block hb1
 have hAH := Lib.hid hA
 clear hW3 hA hb0 hb1
 go_wp2_with fail
 go_ret
 exact ⟨rfl, hAH.out⟩
set_option maxRecDepth 100000 in
set_option maxHeartbeats 4000000 in
theorem rcmp_text {w : World} {k1 n1 k2 n2 : Int} {x y : Bs} {b1 f1 l1 b2 f2 l2 : Value} (h : clsOf k1 = clsOf k2) (hk : k1 = 5) (hx : x.length ≤ 140737488351232) (hy : y.length ≤ 140737488351232) :
  Calls Tryz.prog 34 #[.agg #[.int .i64 k1, .int .i64 n1, .string (strOf x), b1, f1, l1], .agg #[.int .i64 k2, .int .i64 n2, .string (strOf y), b2, f2, l2]] w fun e w' => e = .returned (.int .i64 (cmpB x y)) ∧ Step [] id id w w' := by
 have htx := fun W => ref_text x y W hx hy
 obtain ⟨C, hC⟩ : ∃ C, C = cmpB x y := ⟨_, rfl⟩
 obtain ⟨A, hA⟩ : ∃ A, A = strOf x := ⟨_, rfl⟩
 obtain ⟨B, hB⟩ : ∃ B, B = strOf y := ⟨_, rfl⟩
 rw [← hC, ← hA, ← hB] at htx
 rw [← hC, ← hA, ← hB]
 have htxH := Lib.hid htx
 obtain ⟨s1, hs1⟩ : ∃ s, s = Value.string A := ⟨_, rfl⟩
 obtain ⟨s2, hs2⟩ : ∃ s, s = Value.string B := ⟨_, rfl⟩
 rw [← hs1, ← hs2]
 have hs1H := Lib.hid hs1
 have hs2H := Lib.hid hs2
 clear htx hC hA hB hx hy hs1 hs2
 have hcl := Lib.hid (fun k W => ref_class k W)
 have hsg := Lib.hid (fun a b W => ref_sign a b W)
 obtain ⟨c1, hc1⟩ : ∃ c, c = clsOf k1 := ⟨_, rfl⟩
 obtain ⟨c2, hc2⟩ : ∃ c, c = clsOf k2 := ⟨_, rfl⟩
 obtain ⟨S, hS⟩ : ∃ S, S = sgnI c1 c2 := ⟨_, rfl⟩
 have hc1H := Lib.hid hc1
 have hc2H := Lib.hid hc2
 have hSH := Lib.hid hS
 clear hc1 hc2 hS
 have e3 : (k1 == 3) = false := by rw [beq_eq_false_iff_ne]; omega
 have e4 : (k1 == 4) = false := by rw [beq_eq_false_iff_ne]; omega
 have e10 : (k1 == 10) = false := by rw [beq_eq_false_iff_ne]; omega
 have e11 : (k1 == 11) = false := by rw [beq_eq_false_iff_ne]; omega
 have e5 : (k1 == 5) = true := by rw [hk]; rfl
 have hS0 : (S != 0) = false := by rw [hSH.out, hc1H.out, hc2H.out, ← h, sgnI_self]; rfl
 clear h hk
 go_enter Tryz.func34, Tryz.ntmps34
 go_wp2_with fail
 go_quiet ((first | (go_at_call 47; exact quietL (hcl.out _ _)) | (go_at_call 46; exact quietL (hsg.out _ _ _))))
 rw [← hc1H.out, ← hc2H.out, ← hSH.out]
 obtain ⟨W3, hW3⟩ : ∃ W3, W3 = (((w.alloc (.cells #[.int .i64 k1, .int .i64 n1, s1, b1, f1, l1] 35)).alloc (.cells #[.int .i64 k2, .int .i64 n2, s2, b2, f2, l2] 35)).drewN nq) := ⟨_, rfl⟩
 rw [← hW3]
 have hA : Step [] id id w W3 := by rw [hW3]; exact ((Step.alloc _).tail (Step.alloc _)).tail (Step.drewN _ _)
 have hb0 : W3.heap[w.heap.size]? = some (.cells #[.int .i64 k1, .int .i64 n1, s1, b1, f1, l1] 35 (0, 0)) := by rw [hW3]; exact drewN_blk (alloc_old (heap_alloc_new w _))
 have hb1 : W3.heap[w.heap.size + 1]? = some (.cells #[.int .i64 k2, .int .i64 n2, s2, b2, f2, l2] 35 (0, 0)) := by
  rw [hW3]; refine drewN_blk ?_
  have := heap_alloc_new (w.alloc (.cells #[.int .i64 k1, .int .i64 n1, s1, b1, f1, l1] 35)) (.cells #[.int .i64 k2, .int .i64 n2, s2, b2, f2, l2] 35)
  rwa [show (w.alloc (.cells #[.int .i64 k1, .int .i64 n1, s1, b1, f1, l1] 35)).heap.size = w.heap.size + 1 by simp] at this
 obtain ⟨a0, a1, a2, a3, a4, a5⟩ := cells6A hb0
 obtain ⟨d0, d1, d2, d3, d4, d5⟩ := cells6A hb1
 have lt0 := lt_of_block hb0
 have lt1 := lt_of_block hb1
 have hAH := Lib.hid hA
 clear hW3 hA hb0 hb1
 rw [hs1H.out] at a2
 rw [hs2H.out] at d2
 go_wp2_with fail
 refine (htxH.out _).mono ?_
 rintro e w5 ⟨rfl, hs5⟩
 have hs5H := Lib.hid (hAH.out.tail hs5)
 clear hs5
 go_wp2_with fail
 go_ret
 exact ⟨rfl, hs5H.out⟩
end Go.Proofs.YtembpajlllnncaaGreatDoor
namespace Go.Proofs.YtembpajlllnncaaGreatDoor
open Go.RowKit

set_option maxRecDepth 100000 in
set_option maxHeartbeats 4000000 in
theorem rcmp_id {P Q : Nat → Prop} {w : World} {k1 n1 k2 n2 : Int} {x y : Bs} {p1 p2 : Option Addr} {m1 m2 q1 q2 : Nat} {s1 f1 l1 s2 f2 l2 : Value} (h : clsOf k1 = clsOf k2) (hk : k1 = 9) (hx : x.length ≤ 140737488351232) (hy : y.length ≤ 140737488351232)
  (hbx : BIn P w (.slice p1 m1 q1) x) (hby : BIn Q w (.slice p2 m2 q2) y) :
  Calls Tryz.prog 34 #[.agg #[.int .i64 k1, .int .i64 n1, s1, .slice p1 m1 q1, f1, l1], .agg #[.int .i64 k2, .int .i64 n2, s2, .slice p2 m2 q2, f2, l2]] w fun e w' => e = .returned (.int .i64 (cmpB x y)) ∧ Step [] id id w w' := by
 have htx := fun W => ref_text x y W hx hy
 have hst := Lib.hid (fun (W : World) (hW : Step [] id id w W) => And.intro (BIn.str (hbx.below.keep (P2 := fun _ => True) (w' := W) (fun _ _ => trivial) (fun k hk hl => (hW.keep k hl (by simp)).2))) (BIn.str (hby.below.keep (P2 := fun _ => True) (w' := W) (fun _ _ => trivial) (fun k hk hl => (hW.keep k hl (by simp)).2))))
 obtain ⟨C, hC⟩ : ∃ C, C = cmpB x y := ⟨_, rfl⟩
 obtain ⟨A, hA⟩ : ∃ A, A = strOf x := ⟨_, rfl⟩
 obtain ⟨B, hB⟩ : ∃ B, B = strOf y := ⟨_, rfl⟩
 rw [← hC, ← hA, ← hB] at htx
 rw [← hA, ← hB] at hst
 rw [← hC]
 have htxH := Lib.hid htx
 obtain ⟨b1, hb1⟩ : ∃ s, s = Value.slice p1 m1 q1 := ⟨_, rfl⟩
 obtain ⟨b2, hb2⟩ : ∃ s, s = Value.slice p2 m2 q2 := ⟨_, rfl⟩
 rw [← hb1, ← hb2]
 have hb1H := Lib.hid hb1
 have hb2H := Lib.hid hb2
 clear htx hC hA hB hx hy hb1 hb2 hbx hby
 have hcl := Lib.hid (fun k W => ref_class k W)
 have hsg := Lib.hid (fun a b W => ref_sign a b W)
 obtain ⟨c1, hc1⟩ : ∃ c, c = clsOf k1 := ⟨_, rfl⟩
 obtain ⟨c2, hc2⟩ : ∃ c, c = clsOf k2 := ⟨_, rfl⟩
 obtain ⟨S, hS⟩ : ∃ S, S = sgnI c1 c2 := ⟨_, rfl⟩
 have hc1H := Lib.hid hc1
 have hc2H := Lib.hid hc2
 have hSH := Lib.hid hS
 clear hc1 hc2 hS
 have e3 : (k1 == 3) = false := by rw [beq_eq_false_iff_ne]; omega
 have e4 : (k1 == 4) = false := by rw [beq_eq_false_iff_ne]; omega
 have e10 : (k1 == 10) = false := by rw [beq_eq_false_iff_ne]; omega
 have e11 : (k1 == 11) = false := by rw [beq_eq_false_iff_ne]; omega
 have e5 : (k1 == 5) = false := by rw [beq_eq_false_iff_ne]; omega
 have e8 : (k1 == 8) = false := by rw [beq_eq_false_iff_ne]; omega
 have e9 : (k1 == 9) = true := by rw [hk]; rfl
 have hS0 : (S != 0) = false := by rw [hSH.out, hc1H.out, hc2H.out, ← h, sgnI_self]; rfl
 clear h hk
 go_enter Tryz.func34, Tryz.ntmps34
 go_wp2_with fail
 go_quiet ((first | (go_at_call 47; exact quietL (hcl.out _ _)) | (go_at_call 46; exact quietL (hsg.out _ _ _))))
 rw [← hc1H.out, ← hc2H.out, ← hSH.out]
 obtain ⟨W3, hW3⟩ : ∃ W3, W3 = (((w.alloc (.cells #[.int .i64 k1, .int .i64 n1, s1, b1, f1, l1] 35)).alloc (.cells #[.int .i64 k2, .int .i64 n2, s2, b2, f2, l2] 35)).drewN nq) := ⟨_, rfl⟩
 rw [← hW3]
 have hA : Step [] id id w W3 := by rw [hW3]; exact ((Step.alloc _).tail (Step.alloc _)).tail (Step.drewN _ _)
 have hb0 : W3.heap[w.heap.size]? = some (.cells #[.int .i64 k1, .int .i64 n1, s1, b1, f1, l1] 35 (0, 0)) := by rw [hW3]; exact drewN_blk (alloc_old (heap_alloc_new w _))
 have hb1 : W3.heap[w.heap.size + 1]? = some (.cells #[.int .i64 k2, .int .i64 n2, s2, b2, f2, l2] 35 (0, 0)) := by
  rw [hW3]; refine drewN_blk ?_
  have := heap_alloc_new (w.alloc (.cells #[.int .i64 k1, .int .i64 n1, s1, b1, f1, l1] 35)) (.cells #[.int .i64 k2, .int .i64 n2, s2, b2, f2, l2] 35)
  rwa [show (w.alloc (.cells #[.int .i64 k1, .int .i64 n1, s1, b1, f1, l1] 35)).heap.size = w.heap.size + 1 by simp] at this
 obtain ⟨a0, a1, a2, a3, a4, a5⟩ := cells6A hb0
 obtain ⟨d0, d1, d2, d3, d4, d5⟩ := cells6A hb1
 have lt0 := lt_of_block hb0
 have lt1 := lt_of_block hb1
 have hAH := Lib.hid hA
 clear hW3 hA hb0 hb1
 rw [hb1H.out] at a3
 rw [hb2H.out] at d3
 obtain ⟨hv1, hv2⟩ := hst.out W3 hAH.out
 go_wp2_with fail
 refine (htxH.out _).mono ?_
 rintro e w5 ⟨rfl, hs5⟩
 have hs5H := Lib.hid (hAH.out.tail hs5)
 clear hs5
 go_wp2_with fail
 go_ret
 exact ⟨rfl, hs5H.out⟩
set_option maxRecDepth 100000 in
set_option maxHeartbeats 4000000 in
theorem rcmp_bytes {P Q : Nat → Prop} {w : World} {k1 n1 k2 n2 : Int} {x y : Bs} {p1 p2 : Option Addr} {m1 m2 q1 q2 : Nat} {s1 f1 l1 s2 f2 l2 : Value} (h : clsOf k1 = clsOf k2) (hk : k1 = 8) (hx : x.length ≤ 140737488351232) (hy : y.length ≤ 140737488351232)
  (hbx : BIn P w (.slice p1 m1 q1) x) (hby : BIn Q w (.slice p2 m2 q2) y) :
  Calls Tryz.prog 34 #[.agg #[.int .i64 k1, .int .i64 n1, s1, .slice p1 m1 q1, f1, l1], .agg #[.int .i64 k2, .int .i64 n2, s2, .slice p2 m2 q2, f2, l2]] w fun e w' => e = .returned (.int .i64 (orI (sgnI m1 m2) (cmpB x y))) ∧ Step [] id id w w' := by
 obtain ⟨T, hT⟩ : ∃ T, T = sgnI (m1 : Int) (m2 : Int) := ⟨_, rfl⟩
 rw [← hT]
 have hsT := Lib.hid (fun W => ref_sign (m1 : Int) (m2 : Int) W)
 rw [← hT] at hsT
 clear hT
 have htx := fun W => ref_text x y W hx hy
 have hst := Lib.hid (fun (W : World) (hW : Step [] id id w W) => And.intro (BIn.str (hbx.below.keep (P2 := fun _ => True) (w' := W) (fun _ _ => trivial) (fun k hk hl => (hW.keep k hl (by simp)).2))) (BIn.str (hby.below.keep (P2 := fun _ => True) (w' := W) (fun _ _ => trivial) (fun k hk hl => (hW.keep k hl (by simp)).2))))
 obtain ⟨C, hC⟩ : ∃ C, C = cmpB x y := ⟨_, rfl⟩
 obtain ⟨A, hA⟩ : ∃ A, A = strOf x := ⟨_, rfl⟩
 obtain ⟨B, hB⟩ : ∃ B, B = strOf y := ⟨_, rfl⟩
 rw [← hC, ← hA, ← hB] at htx
 rw [← hA, ← hB] at hst
 rw [← hC]
 have htxH := Lib.hid htx
 obtain ⟨b1, hb1⟩ : ∃ s, s = Value.slice p1 m1 q1 := ⟨_, rfl⟩
 obtain ⟨b2, hb2⟩ : ∃ s, s = Value.slice p2 m2 q2 := ⟨_, rfl⟩
 rw [← hb1, ← hb2]
 have hb1H := Lib.hid hb1
 have hb2H := Lib.hid hb2
 clear htx hC hA hB hx hy hb1 hb2 hbx hby
 have hcl := Lib.hid (fun k W => ref_class k W)
 have hsg := Lib.hid (fun a b W => ref_sign a b W)
 obtain ⟨c1, hc1⟩ : ∃ c, c = clsOf k1 := ⟨_, rfl⟩
 obtain ⟨c2, hc2⟩ : ∃ c, c = clsOf k2 := ⟨_, rfl⟩
 obtain ⟨S, hS⟩ : ∃ S, S = sgnI c1 c2 := ⟨_, rfl⟩
 have hc1H := Lib.hid hc1
 have hc2H := Lib.hid hc2
 have hSH := Lib.hid hS
 clear hc1 hc2 hS
 have e3 : (k1 == 3) = false := by rw [beq_eq_false_iff_ne]; omega
 have e4 : (k1 == 4) = false := by rw [beq_eq_false_iff_ne]; omega
 have e10 : (k1 == 10) = false := by rw [beq_eq_false_iff_ne]; omega
 have e11 : (k1 == 11) = false := by rw [beq_eq_false_iff_ne]; omega
 have e5 : (k1 == 5) = false := by rw [beq_eq_false_iff_ne]; omega
 have e8 : (k1 == 8) = true := by rw [hk]; rfl
 have hS0 : (S != 0) = false := by rw [hSH.out, hc1H.out, hc2H.out, ← h, sgnI_self]; rfl
 clear h hk
 go_enter Tryz.func34, Tryz.ntmps34
 go_wp2_with fail
 go_quiet ((first | (go_at_call 47; exact quietL (hcl.out _ _)) | (go_at_call 46; exact quietL (hsg.out _ _ _))))
 rw [← hc1H.out, ← hc2H.out, ← hSH.out]
 obtain ⟨W3, hW3⟩ : ∃ W3, W3 = (((w.alloc (.cells #[.int .i64 k1, .int .i64 n1, s1, b1, f1, l1] 35)).alloc (.cells #[.int .i64 k2, .int .i64 n2, s2, b2, f2, l2] 35)).drewN nq) := ⟨_, rfl⟩
 rw [← hW3]
 have hA : Step [] id id w W3 := by rw [hW3]; exact ((Step.alloc _).tail (Step.alloc _)).tail (Step.drewN _ _)
 have hb0 : W3.heap[w.heap.size]? = some (.cells #[.int .i64 k1, .int .i64 n1, s1, b1, f1, l1] 35 (0, 0)) := by rw [hW3]; exact drewN_blk (alloc_old (heap_alloc_new w _))
 have hb1 : W3.heap[w.heap.size + 1]? = some (.cells #[.int .i64 k2, .int .i64 n2, s2, b2, f2, l2] 35 (0, 0)) := by
  rw [hW3]; refine drewN_blk ?_
  have := heap_alloc_new (w.alloc (.cells #[.int .i64 k1, .int .i64 n1, s1, b1, f1, l1] 35)) (.cells #[.int .i64 k2, .int .i64 n2, s2, b2, f2, l2] 35)
  rwa [show (w.alloc (.cells #[.int .i64 k1, .int .i64 n1, s1, b1, f1, l1] 35)).heap.size = w.heap.size + 1 by simp] at this
 obtain ⟨a0, a1, a2, a3, a4, a5⟩ := cells6A hb0
 obtain ⟨d0, d1, d2, d3, d4, d5⟩ := cells6A hb1
 have lt0 := lt_of_block hb0
 have lt1 := lt_of_block hb1
 have hAH := Lib.hid hA
 clear hW3 hA hb0 hb1
 rw [hb1H.out] at a3
 rw [hb2H.out] at d3
 obtain ⟨hv1, hv2⟩ := hst.out W3 hAH.out
 go_wp2_with fail
 refine (hsT.out _).mono ?_
 rintro e w' ⟨rfl, rfl⟩
 by_cases hT0 : T = 0
 ·have hTb : (T != 0) = false := by rw [hT0]; rfl
  have hres := Lib.hid (show orI T C = C by unfold orI; rw [if_neg (by simp [hT0])])
  clear hT0
  go_wp2_with fail
  refine (htxH.out _).mono ?_
  rintro e w5 ⟨rfl, hs5⟩
  have hs5H := Lib.hid (hAH.out.tail hs5)
  clear hs5
  go_wp2_with fail
  go_ret
  exact ⟨by rw [hres.out]; rfl, hs5H.out⟩
 ·have hTb : (T != 0) = true := by rw [bne_iff_ne]; exact hT0
  have hres := Lib.hid (show orI T C = T by unfold orI; rw [if_pos hT0])
  clear hT0
  go_wp2_with fail
  go_ret
  exact ⟨by rw [hres.out]; rfl, hAH.out⟩
end Go.Proofs.YtembpajlllnncaaGreatDoor
namespace Go.Proofs.YtembpajlllnncaaGreatDoor
open Go.RowKit

/-- What is left when one of them is at its end. -/
theorem cmpLs_sgn {l m : List Val} {j n1 n2 : Nat} (h1 : n1 = l.length) (h2 : n2 = m.length) (hj1 : j ≤ n1) (hj2 : j ≤ n2) (h : ¬ (j < n1 ∧ j < n2)) : cmpLs (l.drop j) (m.drop j) = sgnI n1 n2 := by
 subst h1 h2
 unfold sgnI
 by_cases ha : j < l.length
 ·rw [cmpLs_left ha (by omega), if_neg (by omega), if_pos (by omega)]
 ·by_cases hb : j < m.length
  ·rw [cmpLs_right (by omega) hb, if_pos (by omega)]
  ·rw [cmpLs_end (by omega) (by omega), if_neg (by omega), if_neg (by omega)]
set_option maxRecDepth 100000 in
set_option maxHeartbeats 8000000 in
theorem rcmp_list {P Q : Nat → Prop} {w : World} {l m : List Val} {k1 n1 k2 n2 : Int} {s1 b1 f1 s2 b2 f2 : Value} {la lb : Option Addr} {m1 c3 m2 c4 : Nat} (h : clsOf k1 = clsOf k2) (hk : k1 = 7)
  (hl : LIs P w l la 0) (hm : LIs Q w m lb 0) (hm1 : m1 = l.length) (hm2 : m2 = m.length) (hx1 : m1 ≤ 140737488351232) (hx2 : m2 ≤ 140737488351232)
  (hc : ∀ (j : Nat) (h1 : j < l.length) (h2 : j < m.length), RCmpH l[j] m[j]) :
  Calls Tryz.prog 34 #[.agg #[.int .i64 k1, .int .i64 n1, s1, b1, f1, .slice la m1 c3], .agg #[.int .i64 k2, .int .i64 n2, s2, b2, f2, .slice lb m2 c4]] w fun e w' => e = .returned (.int .i64 (cmpLs l m)) ∧ Step [] id id w w' := by
 have hlk := Lib.hid (fun (W : World) (hW : Step [] id id w W) => LIs.keep (P2 := fun _ => True) (w' := W) (fun _ _ => trivial) (fun k hk hl => (hW.keep k hl (by simp)).2) _ _ _ hl)
 have hmk := Lib.hid (fun (W : World) (hW : Step [] id id w W) => LIs.keep (P2 := fun _ => True) (w' := W) (fun _ _ => trivial) (fun k hk hl => (hW.keep k hl (by simp)).2) _ _ _ hm)
 have hm1H := Lib.hid hm1
 have hm2H := Lib.hid hm2
 have hcH := Lib.hid hc
 obtain ⟨C0, hC0⟩ : ∃ C, C = cmpLs l m := ⟨_, rfl⟩
 rw [← hC0]
 have hC0H := Lib.hid (show C0 = cmpLs (l.drop 0) (m.drop 0) from hC0)
 clear hl hm hm1 hm2 hc hC0
 obtain ⟨l1, hl1⟩ : ∃ s, s = Value.slice la m1 c3 := ⟨_, rfl⟩
 obtain ⟨l2, hl2⟩ : ∃ s, s = Value.slice lb m2 c4 := ⟨_, rfl⟩
 rw [← hl1, ← hl2]
 have hl1H := Lib.hid hl1
 have hl2H := Lib.hid hl2
 clear hl1 hl2
 have hcl := Lib.hid (fun k W => ref_class k W)
 have hsg := Lib.hid (fun a b W => ref_sign a b W)
 obtain ⟨c1, hc1⟩ : ∃ c, c = clsOf k1 := ⟨_, rfl⟩
 obtain ⟨c2, hc2⟩ : ∃ c, c = clsOf k2 := ⟨_, rfl⟩
 obtain ⟨S, hS⟩ : ∃ S, S = sgnI c1 c2 := ⟨_, rfl⟩
 have hc1H := Lib.hid hc1
 have hc2H := Lib.hid hc2
 have hSH := Lib.hid hS
 clear hc1 hc2 hS
 have e3 : (k1 == 3) = false := by rw [beq_eq_false_iff_ne]; omega
 have e4 : (k1 == 4) = false := by rw [beq_eq_false_iff_ne]; omega
 have e10 : (k1 == 10) = false := by rw [beq_eq_false_iff_ne]; omega
 have e11 : (k1 == 11) = false := by rw [beq_eq_false_iff_ne]; omega
 have e5 : (k1 == 5) = false := by rw [beq_eq_false_iff_ne]; omega
 have e8 : (k1 == 8) = false := by rw [beq_eq_false_iff_ne]; omega
 have e9 : (k1 == 9) = false := by rw [beq_eq_false_iff_ne]; omega
 have e6 : (k1 == 6) = false := by rw [beq_eq_false_iff_ne]; omega
 have e7 : (k1 == 7) = true := by rw [hk]; rfl
 have hS0 : (S != 0) = false := by rw [hSH.out, hc1H.out, hc2H.out, ← h, sgnI_self]; rfl
 clear h hk
 go_enter Tryz.func34, Tryz.ntmps34
 go_wp2_with fail
 go_quiet ((first | (go_at_call 47; exact quietL (hcl.out _ _)) | (go_at_call 46; exact quietL (hsg.out _ _ _))))
 rw [← hc1H.out, ← hc2H.out, ← hSH.out]
 obtain ⟨W3, hW3⟩ : ∃ W3, W3 = (((w.alloc (.cells #[.int .i64 k1, .int .i64 n1, s1, b1, f1, l1] 35)).alloc (.cells #[.int .i64 k2, .int .i64 n2, s2, b2, f2, l2] 35)).drewN nq) := ⟨_, rfl⟩
 rw [← hW3]
 have hA : Step [] id id w W3 := by rw [hW3]; exact ((Step.alloc _).tail (Step.alloc _)).tail (Step.drewN _ _)
 have hb0 : W3.heap[w.heap.size]? = some (.cells #[.int .i64 k1, .int .i64 n1, s1, b1, f1, l1] 35 (0, 0)) := by rw [hW3]; exact drewN_blk (alloc_old (heap_alloc_new w _))
 have hb1 : W3.heap[w.heap.size + 1]? = some (.cells #[.int .i64 k2, .int .i64 n2, s2, b2, f2, l2] 35 (0, 0)) := by
  rw [hW3]; refine drewN_blk ?_
  have := heap_alloc_new (w.alloc (.cells #[.int .i64 k1, .int .i64 n1, s1, b1, f1, l1] 35)) (.cells #[.int .i64 k2, .int .i64 n2, s2, b2, f2, l2] 35)
  rwa [show (w.alloc (.cells #[.int .i64 k1, .int .i64 n1, s1, b1, f1, l1] 35)).heap.size = w.heap.size + 1 by simp] at this
 obtain ⟨a0, a1, a2, a3, a4, a5⟩ := cells6A hb0
 obtain ⟨d0, d1, d2, d3, d4, d5⟩ := cells6A hb1
 have lt0 := lt_of_block hb0
 have lt1 := lt_of_block hb1
 have hAH := Lib.hid hA
 have hb0H := Lib.hid hb0
 have hb1H := Lib.hid hb1
 clear hW3 hA hb0 hb1
 rw [hl1H.out] at a5 hb0H
 rw [hl2H.out] at d5 hb1H
 go_wp2_with fail
 clear a0 a1 a2 a3 a4 a5 d0 d1 d2 d3 d4 d5 lt0 lt1
 go_loopw [9] (fun i wr => ∃ j : Nat, i = .int .i64 j ∧ j ≤ m1 ∧ j ≤ m2 ∧ C0 = cmpLs (l.drop j) (m.drop j) ∧ Step [] id id W3 wr) (fun i _ => m1 - (intOf i).toNat)
 case atStart => exact ⟨0, rfl, Nat.zero_le _, Nat.zero_le _, hC0H.out, Step.refl _ _ _⟩
 case round =>
  obtain ⟨j, rfl, hj1, hj2, hcj, hst⟩ := hrel
  have hcjH := Lib.hid hcj
  have hstH := Lib.hid hst
  clear hcj
  have v1 := cell_blk (hst.at hb0H.out (by simp)) (i := 5) rfl
  have v2 := cell_blk (hst.at hb1H.out (by simp)) (i := 5) rfl
  have lt0 := lt_of_block (hst.at hb0H.out (by simp))
  have lt1 := lt_of_block (hst.at hb1H.out (by simp))
  have hj0 : (0 : Int) ≤ (j : Int) := by omega
  by_cases hjn : j < m1
  rotate_left
  ·have hd1 : decide ((j : Int) < (m1 : Int)) = false := by rw [decide_eq_false_iff_not]; omega
   have hd1' : ¬ (j : Int) < (m1 : Int) := by omega
   have hres := Lib.hid (hcjH.out.trans (cmpLs_sgn hm1H.out hm2H.out hj1 hj2 (by omega)))
   clear hst
   go_wp2_with fail
   refine (hsg.out _ _ _).mono ?_
   rintro e w' ⟨rfl, rfl⟩
   go_wp2_with fail
   go_ret
   exact ⟨by rw [hres.out]; rfl, hAH.out.tail hstH.out⟩
  have hjn1 : (j : Int) < (m1 : Int) := by omega
  by_cases hjm : j < m2
  rotate_left
  ·have hd1 : decide ((j : Int) < (m2 : Int)) = false := by rw [decide_eq_false_iff_not]; omega
   have hd1' : ¬ (j : Int) < (m2 : Int) := by omega
   have hres := Lib.hid (hcjH.out.trans (cmpLs_sgn hm1H.out hm2H.out hj1 hj2 (by omega)))
   clear hst
   go_wp2_with fail
   refine (hsg.out _ _ _).mono ?_
   rintro e w' ⟨rfl, rfl⟩
   go_wp2_with fail
   go_ret
   exact ⟨by rw [hres.out]; rfl, hAH.out.tail hstH.out⟩
  have hjm1 : (j : Int) < (m2 : Int) := by omega
  have hwrap : IntKind.i64.wrap ((j : Int) + 1) = (j : Int) + 1 := IntWalk.i64_in _ (by omega)
  have hjl : j < l.length := by rw [← hm1H.out]; exact hjn
  have hjml : j < m.length := by rw [← hm2H.out]; exact hjm
  have hlr := hlk.out wr (hAH.out.tail hst)
  have hmr := hmk.out wr (hAH.out.tail hst)
  obtain ⟨b1, o1, cs1, hla, -, -, -⟩ := hlr.get hjl
  subst hla
  obtain ⟨b2, o2, cs2, hlb, -, -, -⟩ := hmr.get hjml
  subst hlb
  obtain ⟨t1, ba, bn, bc, fa, fn, fc, la1, ln1, lc1, hxj, -, q0, q1, q2, q3, q4, q5⟩ := elem_at hlr hjl
  obtain ⟨t2, ba2, bn2, bc2, fa2, fn2, fc2, la2, ln2, lc2, hyj, -, p0, p1, p2, p3, p4, p5⟩ := elem_at hmr hjml
  have hgr : b1 < wr.heap.size := World.block_lt_of_cell? _ _ q0
  have hgr2 : b2 < wr.heap.size := World.block_lt_of_cell? _ _ p0
  obtain ⟨kk1, hk1⟩ : ∃ k, k = l[j].kind := ⟨_, rfl⟩
  obtain ⟨nn1, hm1⟩ : ∃ k, k = l[j].num := ⟨_, rfl⟩
  obtain ⟨kk2, hk2⟩ : ∃ k, k = m[j].kind := ⟨_, rfl⟩
  obtain ⟨nn2, hm2⟩ : ∃ k, k = m[j].num := ⟨_, rfl⟩
  rw [← hk1] at q0
  rw [← hm1] at q1
  rw [← hk1, ← hm1] at hxj
  rw [← hk2] at p0
  rw [← hm2] at p1
  rw [← hk2, ← hm2] at hyj
  have hcall := Lib.hid (fun (W : World) (hW : Step [] id id wr W) => hcH.out j hjl hjml _ _ W _ _ (hxj.low.onto hW) (hyj.low.onto hW))
  obtain ⟨C, hC⟩ : ∃ C, C = cmpV l[j] m[j] := ⟨_, rfl⟩
  rw [← hC] at hcall
  have hdrop := cmpLs_drop hjl hjml
  rw [← hC, ← hcjH.out] at hdrop
  have hdH := Lib.hid hdrop
  clear hst hlr hmr hxj hyj hk1 hm1 hk2 hm2 hC hdrop
  go_wp2_with fail
  refine wp_region_held_drew (S := fun w' => w'.cell? ⟨w.heap.size, 5, none⟩ = some (.slice (some ⟨b1, o1, none⟩) m1 c3) ∧ w'.cell? ⟨w.heap.size + 1, 5, none⟩ = some (.slice (some ⟨b2, o2, none⟩) m2 c4) ∧ w'.cell? ⟨b1, o1 + j * 6, none⟩ = some (.int .i64 kk1) ∧ w'.cell? ⟨b1, o1 + j * 6 + 1, none⟩ = some (.int .i64 nn1) ∧ w'.cell? ⟨b1, o1 + j * 6 + 2, none⟩ = some (.string t1) ∧ w'.cell? ⟨b1, o1 + j * 6 + 3, none⟩ = some (.slice ba bn bc) ∧ w'.cell? ⟨b1, o1 + j * 6 + 4, none⟩ = some (.slice fa fn fc) ∧ w'.cell? ⟨b1, o1 + j * 6 + 5, none⟩ = some (.slice la1 ln1 lc1) ∧ w'.cell? ⟨b2, o2 + j * 6, none⟩ = some (.int .i64 kk2) ∧ w'.cell? ⟨b2, o2 + j * 6 + 1, none⟩ = some (.int .i64 nn2) ∧ w'.cell? ⟨b2, o2 + j * 6 + 2, none⟩ = some (.string t2) ∧ w'.cell? ⟨b2, o2 + j * 6 + 3, none⟩ = some (.slice ba2 bn2 bc2) ∧ w'.cell? ⟨b2, o2 + j * 6 + 4, none⟩ = some (.slice fa2 fn2 fc2) ∧ w'.cell? ⟨b2, o2 + j * 6 + 5, none⟩ = some (.slice la2 ln2 lc2)) (by kernel_rfl) ⟨v1, v2, q0, q1, q2, q3, q4, q5, p0, p1, p2, p3, p4, p5⟩ (fun hHeld => ?_)
  refine tkH 0 ?_ rfl (by kernel_rfl) (fun _ _ _ h => h) ?_ hHeld ?_
  rotate_left
  ·intro w' hSw; (try dsimp only at hSw); go_simp
   all_goals (with_reducible rfl)
  simp only [zP, zO, zA, zB, zC, zD, zE, zF]
  refine tkH 1 ?_ rfl (by kernel_rfl) (fun _ _ _ h => h) ?_ hHeld ?_
  rotate_left
  ·intro w' hSw; (try dsimp only at hSw); go_simp
   all_goals (with_reducible rfl)
  simp only [zP, zO, zA, zB, zC, zD, zE, zF]
  refine tkH 2 ?_ rfl (by kernel_rfl) (fun _ _ _ h => h) ?_ hHeld ?_
  rotate_left
  ·intro w' hSw; (try dsimp only at hSw); go_simp
   all_goals (with_reducible rfl)
  simp only [zP, zO, zA, zB, zC, zD, zE, zF]
  refine tkH 3 ?_ rfl (by kernel_rfl) (fun _ _ _ h => h) ?_ hHeld ?_
  rotate_left
  ·intro w' hSw; (try dsimp only at hSw); go_simp
   all_goals (with_reducible rfl)
  simp only [zP, zO, zA, zB, zC, zD, zE, zF]
  refine tkH 4 ?_ rfl (by kernel_rfl) (fun _ _ _ h => h) ?_ hHeld ?_
  rotate_left
  ·intro w' hSw; (try dsimp only at hSw); go_simp
   all_goals (with_reducible rfl)
  simp only [zP, zO, zA, zB, zC, zD, zE, zF]
  refine tkH 5 ?_ rfl (by kernel_rfl) (fun _ _ _ h => h) ?_ hHeld ?_
  rotate_left
  ·intro w' hSw; (try dsimp only at hSw); go_simp
   all_goals (with_reducible rfl)
  simp only [zP, zO, zA, zB, zC, zD, zE, zF]
  refine tkH 6 ?_ rfl (by kernel_rfl) (fun _ _ _ h => h) ?_ hHeld ?_
  rotate_left
  ·intro w' hSw; (try dsimp only at hSw); go_simp
   all_goals (with_reducible rfl)
  simp only [zP, zO, zA, zB, zC, zD, zE, zF]
  refine tkH 7 ?_ rfl (by kernel_rfl) (fun _ _ _ h => h) ?_ hHeld ?_
  rotate_left
  ·intro w' hSw; (try dsimp only at hSw); go_simp
   all_goals (with_reducible rfl)
  simp only [zP, zO, zA, zB, zC, zD, zE, zF]
  refine tkH 8 ?_ rfl (by kernel_rfl) (fun _ _ _ h => h) ?_ hHeld ?_
  rotate_left
  ·intro w' hSw; (try dsimp only at hSw); go_simp
   all_goals (with_reducible rfl)
  simp only [zP, zO, zA, zB, zC, zD, zE, zF]
  refine tkH 9 ?_ rfl (by kernel_rfl) (fun _ _ _ h => h) ?_ hHeld ?_
  rotate_left
  ·intro w' hSw; (try dsimp only at hSw); go_simp
   all_goals (with_reducible rfl)
  simp only [zP, zO, zA, zB, zC, zD, zE, zF]
  refine wpAnyH_ready (rs := [10]) (by kernel_rfl) (by simp) ?_
  refine AllReadyH.cons (o := _) rfl (fun K hK => ?_) AllReadyH.nil
  go_simp
  refine (hcall.out _ Step.drew).mono ?_
  rintro e w4 ⟨rfl, hs4⟩
  have hk3 : ∀ (p : Addr) v, wr.cell? p = some v → w4.cell? p = some v := fun p v hv => (World.cell?_of_block (a := p) (((Step.drew.tail hs4).keep p.block (World.block_lt_of_cell? wr p hv) (by simp)).2)).trans hv
  have hS4 := Lib.hid (And.intro (hk3 _ _ v1) (And.intro (hk3 _ _ v2) (And.intro (hk3 _ _ q0) (And.intro (hk3 _ _ q1) (And.intro (hk3 _ _ q2) (And.intro (hk3 _ _ q3) (And.intro (hk3 _ _ q4) (And.intro (hk3 _ _ q5) (And.intro (hk3 _ _ p0) (And.intro (hk3 _ _ p1) (And.intro (hk3 _ _ p2) (And.intro (hk3 _ _ p3) (And.intro (hk3 _ _ p4) (hk3 _ _ p5))))))))))))))
  have hs4H := Lib.hid (hstH.out.tail (Step.drew.tail hs4))
  clear hs4 hk3
  go_wp2_with fail
  refine hK.out _ _ ?_ (fun hHeld => ?_)
  ·exact hS4.out
  clear hK K
  refine tkH 11 ?_ rfl (by kernel_rfl) (fun _ _ _ h => h) ?_ hHeld ?_
  rotate_left
  ·intro w' hSw; (try dsimp only at hSw); go_simp
   all_goals (with_reducible rfl)
  simp only [zP, zO, zA, zB, zC, zD, zE, zF]
  refine wpAnyH_done (by kernel_rfl) ?_ _
  clear hHeld v1 v2 q0 q1 q2 q3 q4 q5 p0 p1 p2 p3 p4 p5 hS4
  by_cases hC0 : C = 0
  ·have hCb : (C != 0) = false := by rw [hC0]; rfl
   have hd2 := hdH.out
   rw [hC0, orI, if_neg (by simp)] at hd2
   have hd2H := Lib.hid hd2
   clear hd2
   go_wp2_with fail
   go_roundw
   case rel => exact ⟨j + 1, by go_num, by omega, by omega, hd2H.out, hs4H.out⟩
   case measure => simp [intOf]; omega
  ·have hCb : (C != 0) = true := by rw [bne_iff_ne]; exact hC0
   have hd2 := hdH.out
   rw [orI, if_pos hC0] at hd2
   have hd2H := Lib.hid hd2
   clear hd2
   go_wp2_with fail
   go_ret
   exact ⟨by rw [hd2H.out]; rfl, hAH.out.tail hs4H.out⟩
end Go.Proofs.YtembpajlllnncaaGreatDoor
namespace Go.Proofs.YtembpajlllnncaaGreatDoor
open Go.RowKit

/-- What is left when one of them is at its end. -/
theorem cmpFs_sgn {l m : List (Bs × Val)} {j n1 n2 : Nat} (h1 : n1 = l.length) (h2 : n2 = m.length) (hj1 : j ≤ n1) (hj2 : j ≤ n2) (h : ¬ (j < n1 ∧ j < n2)) : cmpFs (l.drop j) (m.drop j) = sgnI n1 n2 := by
 subst h1 h2
 unfold sgnI
 by_cases ha : j < l.length
 ·rw [cmpFs_left ha (by omega), if_neg (by omega), if_pos (by omega)]
 ·by_cases hb : j < m.length
  ·rw [cmpFs_right (by omega) hb, if_pos (by omega)]
  ·rw [cmpFs_end (by omega) (by omega), if_neg (by omega), if_neg (by omega)]
theorem orI_zero (a : Int) : orI 0 a = a := by rw [orI, if_neg (by simp)]
set_option maxRecDepth 100000 in
set_option maxHeartbeats 8000000 in
theorem rcmp_doc {P Q : Nat → Prop} {w : World} {l m : List (Bs × Val)} {k1 n1 k2 n2 : Int} {s1 b1 l1 s2 b2 l2 : Value} {la lb : Option Addr} {m1 c3 m2 c4 : Nat} (h : clsOf k1 = clsOf k2) (hk : k1 = 6)
  (hl : FIs P w l la 0) (hm : FIs Q w m lb 0) (hm1 : m1 = l.length) (hm2 : m2 = m.length) (hx1 : m1 ≤ 140737488351232) (hx2 : m2 ≤ 140737488351232)
  (hc : ∀ (j : Nat) (h1 : j < l.length) (h2 : j < m.length), RCmpH l[j].2 m[j].2) :
  Calls Tryz.prog 34 #[.agg #[.int .i64 k1, .int .i64 n1, s1, b1, .slice la m1 c3, l1], .agg #[.int .i64 k2, .int .i64 n2, s2, b2, .slice lb m2 c4, l2]] w fun e w' => e = .returned (.int .i64 (cmpFs l m)) ∧ Step [] id id w w' := by
 have hlk := Lib.hid (fun (W : World) (hW : Step [] id id w W) => FIs.keep (P2 := fun _ => True) (w' := W) (fun _ _ => trivial) (fun k hk hl => (hW.keep k hl (by simp)).2) _ _ _ hl)
 have hmk := Lib.hid (fun (W : World) (hW : Step [] id id w W) => FIs.keep (P2 := fun _ => True) (w' := W) (fun _ _ => trivial) (fun k hk hl => (hW.keep k hl (by simp)).2) _ _ _ hm)
 have hm1H := Lib.hid hm1
 have hm2H := Lib.hid hm2
 have hcH := Lib.hid hc
 obtain ⟨C0, hC0⟩ : ∃ C, C = cmpFs l m := ⟨_, rfl⟩
 rw [← hC0]
 have hC0H := Lib.hid (show C0 = cmpFs (l.drop 0) (m.drop 0) from hC0)
 clear hl hm hm1 hm2 hc hC0
 obtain ⟨f1, hf1⟩ : ∃ s, s = Value.slice la m1 c3 := ⟨_, rfl⟩
 obtain ⟨f2, hf2⟩ : ∃ s, s = Value.slice lb m2 c4 := ⟨_, rfl⟩
 rw [← hf1, ← hf2]
 have hf1H := Lib.hid hf1
 have hf2H := Lib.hid hf2
 clear hf1 hf2
 have hcl := Lib.hid (fun k W => ref_class k W)
 have hsg := Lib.hid (fun a b W => ref_sign a b W)
 obtain ⟨c1, hc1⟩ : ∃ c, c = clsOf k1 := ⟨_, rfl⟩
 obtain ⟨c2, hc2⟩ : ∃ c, c = clsOf k2 := ⟨_, rfl⟩
 obtain ⟨S, hS⟩ : ∃ S, S = sgnI c1 c2 := ⟨_, rfl⟩
 have hc1H := Lib.hid hc1
 have hc2H := Lib.hid hc2
 have hSH := Lib.hid hS
 clear hc1 hc2 hS
 have e3 : (k1 == 3) = false := by rw [beq_eq_false_iff_ne]; omega
 have e4 : (k1 == 4) = false := by rw [beq_eq_false_iff_ne]; omega
 have e10 : (k1 == 10) = false := by rw [beq_eq_false_iff_ne]; omega
 have e11 : (k1 == 11) = false := by rw [beq_eq_false_iff_ne]; omega
 have e5 : (k1 == 5) = false := by rw [beq_eq_false_iff_ne]; omega
 have e8 : (k1 == 8) = false := by rw [beq_eq_false_iff_ne]; omega
 have e9 : (k1 == 9) = false := by rw [beq_eq_false_iff_ne]; omega
 have e6 : (k1 == 6) = true := by rw [hk]; rfl
 have hS0 : (S != 0) = false := by rw [hSH.out, hc1H.out, hc2H.out, ← h, sgnI_self]; rfl
 clear h hk
 go_enter Tryz.func34, Tryz.ntmps34
 go_wp2_with fail
 go_quiet ((first | (go_at_call 47; exact quietL (hcl.out _ _)) | (go_at_call 46; exact quietL (hsg.out _ _ _))))
 rw [← hc1H.out, ← hc2H.out, ← hSH.out]
 obtain ⟨W3, hW3⟩ : ∃ W3, W3 = (((w.alloc (.cells #[.int .i64 k1, .int .i64 n1, s1, b1, f1, l1] 35)).alloc (.cells #[.int .i64 k2, .int .i64 n2, s2, b2, f2, l2] 35)).drewN nq) := ⟨_, rfl⟩
 rw [← hW3]
 have hA : Step [] id id w W3 := by rw [hW3]; exact ((Step.alloc _).tail (Step.alloc _)).tail (Step.drewN _ _)
 have hb0 : W3.heap[w.heap.size]? = some (.cells #[.int .i64 k1, .int .i64 n1, s1, b1, f1, l1] 35 (0, 0)) := by rw [hW3]; exact drewN_blk (alloc_old (heap_alloc_new w _))
 have hb1 : W3.heap[w.heap.size + 1]? = some (.cells #[.int .i64 k2, .int .i64 n2, s2, b2, f2, l2] 35 (0, 0)) := by
  rw [hW3]; refine drewN_blk ?_
  have := heap_alloc_new (w.alloc (.cells #[.int .i64 k1, .int .i64 n1, s1, b1, f1, l1] 35)) (.cells #[.int .i64 k2, .int .i64 n2, s2, b2, f2, l2] 35)
  rwa [show (w.alloc (.cells #[.int .i64 k1, .int .i64 n1, s1, b1, f1, l1] 35)).heap.size = w.heap.size + 1 by simp] at this
 obtain ⟨a0, a1, a2, a3, a4, a5⟩ := cells6A hb0
 obtain ⟨d0, d1, d2, d3, d4, d5⟩ := cells6A hb1
 have lt0 := lt_of_block hb0
 have lt1 := lt_of_block hb1
 have hAH := Lib.hid hA
 have hb0H := Lib.hid hb0
 have hb1H := Lib.hid hb1
 clear hW3 hA hb0 hb1
 rw [hf1H.out] at a4 hb0H
 rw [hf2H.out] at d4 hb1H
 go_wp2_with fail
 clear a0 a1 a2 a3 a4 a5 d0 d1 d2 d3 d4 d5 lt0 lt1
 go_loopw [6] (fun i wr => ∃ j : Nat, i = .int .i64 j ∧ j ≤ m1 ∧ j ≤ m2 ∧ C0 = cmpFs (l.drop j) (m.drop j) ∧ Step [] id id W3 wr) (fun i _ => m1 - (intOf i).toNat)
 case atStart => exact ⟨0, rfl, Nat.zero_le _, Nat.zero_le _, hC0H.out, Step.refl _ _ _⟩
 case round =>
  obtain ⟨j, rfl, hj1, hj2, hcj, hst⟩ := hrel
  have hcjH := Lib.hid hcj
  have hstH := Lib.hid hst
  clear hcj
  have v1 := cell_blk (hst.at hb0H.out (by simp)) (i := 4) rfl
  have v2 := cell_blk (hst.at hb1H.out (by simp)) (i := 4) rfl
  have lt0 := lt_of_block (hst.at hb0H.out (by simp))
  have lt1 := lt_of_block (hst.at hb1H.out (by simp))
  have hj0 : (0 : Int) ≤ (j : Int) := by omega
  by_cases hjn : j < m1
  rotate_left
  ·have hd1 : decide ((j : Int) < (m1 : Int)) = false := by rw [decide_eq_false_iff_not]; omega
   have hd1' : ¬ (j : Int) < (m1 : Int) := by omega
   have hres := Lib.hid (hcjH.out.trans (cmpFs_sgn hm1H.out hm2H.out hj1 hj2 (by omega)))
   clear hst
   go_wp2_with fail
   refine (hsg.out _ _ _).mono ?_
   rintro e w' ⟨rfl, rfl⟩
   go_wp2_with fail
   go_ret
   exact ⟨by rw [hres.out]; rfl, hAH.out.tail hstH.out⟩
  have hjn1 : (j : Int) < (m1 : Int) := by omega
  by_cases hjm : j < m2
  rotate_left
  ·have hd1 : decide ((j : Int) < (m2 : Int)) = false := by rw [decide_eq_false_iff_not]; omega
   have hd1' : ¬ (j : Int) < (m2 : Int) := by omega
   have hres := Lib.hid (hcjH.out.trans (cmpFs_sgn hm1H.out hm2H.out hj1 hj2 (by omega)))
   clear hst
   go_wp2_with fail
   refine (hsg.out _ _ _).mono ?_
   rintro e w' ⟨rfl, rfl⟩
   go_wp2_with fail
   go_ret
   exact ⟨by rw [hres.out]; rfl, hAH.out.tail hstH.out⟩
  have hjm1 : (j : Int) < (m2 : Int) := by omega
  have hwrap : IntKind.i64.wrap ((j : Int) + 1) = (j : Int) + 1 := IntWalk.i64_in _ (by omega)
  have hjl : j < l.length := by rw [← hm1H.out]; exact hjn
  have hjml : j < m.length := by rw [← hm2H.out]; exact hjm
  have hlr := hlk.out wr (hAH.out.tail hst)
  have hmr := hmk.out wr (hAH.out.tail hst)
  obtain ⟨b1, o1, cs1, hla, -, hN1, -, -⟩ := hlr.get hjl
  subst hla
  obtain ⟨b2, o2, cs2, hlb, -, hN2, -, -⟩ := hmr.get hjml
  subst hlb
  obtain ⟨t1, ba1, bn1, bc1, fa1, fn1, fc1, la1, ln1, lc1, hxj, -, qn, q0, q1, q2, q3, q4, q5⟩ := felem_at hlr hjl
  obtain ⟨t2, ba2, bn2, bc2, fa2, fn2, fc2, la2, ln2, lc2, hyj, -, pn, p0, p1, p2, p3, p4, p5⟩ := felem_at hmr hjml
  have hgr : b1 < wr.heap.size := World.block_lt_of_cell? _ _ q0
  have hgr2 : b2 < wr.heap.size := World.block_lt_of_cell? _ _ p0
  obtain ⟨kk1, hk1⟩ : ∃ k, k = l[j].2.kind := ⟨_, rfl⟩
  obtain ⟨nn1, hm1⟩ : ∃ k, k = l[j].2.num := ⟨_, rfl⟩
  obtain ⟨kk2, hk2⟩ : ∃ k, k = m[j].2.kind := ⟨_, rfl⟩
  obtain ⟨nn2, hm2⟩ : ∃ k, k = m[j].2.num := ⟨_, rfl⟩
  rw [← hk1] at q0
  rw [← hm1] at q1
  rw [← hk1, ← hm1] at hxj
  rw [← hk2] at p0
  rw [← hm2] at p1
  rw [← hk2, ← hm2] at hyj
  have hcall := Lib.hid (fun (W : World) (hW : Step [] id id wr W) => hcH.out j hjl hjml _ _ W _ _ (hxj.low.onto hW) (hyj.low.onto hW))
  obtain ⟨V, hV⟩ : ∃ C, C = cmpV l[j].2 m[j].2 := ⟨_, rfl⟩
  rw [← hV] at hcall
  obtain ⟨A1, hA1⟩ : ∃ A, A = strOf l[j].1 := ⟨_, rfl⟩
  obtain ⟨A2, hA2⟩ : ∃ A, A = strOf m[j].1 := ⟨_, rfl⟩
  obtain ⟨B, hB⟩ : ∃ A, A = cmpB l[j].1 m[j].1 := ⟨_, rfl⟩
  have htx := fun W => ref_text l[j].1 m[j].1 W hN1 hN2
  rw [← hA1] at qn
  rw [← hA2] at pn
  rw [← hA1, ← hA2, ← hB] at htx
  have htxH := Lib.hid htx
  have hdrop := cmpFs_drop hjl hjml
  rw [cmpF, ← hk1, ← hk2, ← hB, ← hV, ← hcjH.out] at hdrop
  obtain ⟨D1, hD1⟩ : ∃ c, c = clsOf kk1 := ⟨_, rfl⟩
  obtain ⟨D2, hD2⟩ : ∃ c, c = clsOf kk2 := ⟨_, rfl⟩
  obtain ⟨D, hD⟩ : ∃ c, c = sgnI D1 D2 := ⟨_, rfl⟩
  rw [← hD1, ← hD2, ← hD] at hdrop
  have hdH := Lib.hid hdrop
  have hD1H := Lib.hid hD1
  have hD2H := Lib.hid hD2
  have hDH := Lib.hid hD
  have hSS := Lib.hid (fun (w' : World) (hW : Step [] id id wr w') => (by
   have hk3 : ∀ (p : Addr) v, wr.cell? p = some v → w'.cell? p = some v := fun p v hv => (World.cell?_of_block (a := p) ((hW.keep p.block (World.block_lt_of_cell? wr p hv) (by simp)).2)).trans hv
   exact ⟨hk3 _ _ v1, hk3 _ _ v2, ⟨hk3 _ _ qn, hk3 _ _ q0, hk3 _ _ q1, hk3 _ _ q2, hk3 _ _ q3, hk3 _ _ q4, hk3 _ _ q5⟩, hk3 _ _ pn, hk3 _ _ p0, hk3 _ _ p1, hk3 _ _ p2, hk3 _ _ p3, hk3 _ _ p4, hk3 _ _ p5⟩ : w'.cell? ⟨w.heap.size, 4, none⟩ = some (.slice (some ⟨b1, o1, none⟩) m1 c3) ∧ w'.cell? ⟨w.heap.size + 1, 4, none⟩ = some (.slice (some ⟨b2, o2, none⟩) m2 c4) ∧ (w'.cell? ⟨b1, o1 + j * 7, none⟩ = some (.string A1) ∧ w'.cell? ⟨b1, o1 + j * 7 + 1, none⟩ = some (.int .i64 kk1) ∧ w'.cell? ⟨b1, o1 + j * 7 + 2, none⟩ = some (.int .i64 nn1) ∧ w'.cell? ⟨b1, o1 + j * 7 + 3, none⟩ = some (.string t1) ∧ w'.cell? ⟨b1, o1 + j * 7 + 4, none⟩ = some (.slice ba1 bn1 bc1) ∧ w'.cell? ⟨b1, o1 + j * 7 + 5, none⟩ = some (.slice fa1 fn1 fc1) ∧ w'.cell? ⟨b1, o1 + j * 7 + 6, none⟩ = some (.slice la1 ln1 lc1)) ∧ w'.cell? ⟨b2, o2 + j * 7, none⟩ = some (.string A2) ∧ w'.cell? ⟨b2, o2 + j * 7 + 1, none⟩ = some (.int .i64 kk2) ∧ w'.cell? ⟨b2, o2 + j * 7 + 2, none⟩ = some (.int .i64 nn2) ∧ w'.cell? ⟨b2, o2 + j * 7 + 3, none⟩ = some (.string t2) ∧ w'.cell? ⟨b2, o2 + j * 7 + 4, none⟩ = some (.slice ba2 bn2 bc2) ∧ w'.cell? ⟨b2, o2 + j * 7 + 5, none⟩ = some (.slice fa2 fn2 fc2) ∧ w'.cell? ⟨b2, o2 + j * 7 + 6, none⟩ = some (.slice la2 ln2 lc2)))
  clear hst hlr hmr hxj hyj hk1 hm1 hk2 hm2 hN1 hN2 hV hdrop htx hA1 hA2 hB hD1 hD2 hD
  go_wp2_with fail
  refine wp_region_held_drew (S := fun w' => w'.cell? ⟨w.heap.size, 4, none⟩ = some (.slice (some ⟨b1, o1, none⟩) m1 c3) ∧ w'.cell? ⟨w.heap.size + 1, 4, none⟩ = some (.slice (some ⟨b2, o2, none⟩) m2 c4) ∧ (w'.cell? ⟨b1, o1 + j * 7, none⟩ = some (.string A1) ∧ w'.cell? ⟨b1, o1 + j * 7 + 1, none⟩ = some (.int .i64 kk1) ∧ w'.cell? ⟨b1, o1 + j * 7 + 2, none⟩ = some (.int .i64 nn1) ∧ w'.cell? ⟨b1, o1 + j * 7 + 3, none⟩ = some (.string t1) ∧ w'.cell? ⟨b1, o1 + j * 7 + 4, none⟩ = some (.slice ba1 bn1 bc1) ∧ w'.cell? ⟨b1, o1 + j * 7 + 5, none⟩ = some (.slice fa1 fn1 fc1) ∧ w'.cell? ⟨b1, o1 + j * 7 + 6, none⟩ = some (.slice la1 ln1 lc1)) ∧ w'.cell? ⟨b2, o2 + j * 7, none⟩ = some (.string A2) ∧ w'.cell? ⟨b2, o2 + j * 7 + 1, none⟩ = some (.int .i64 kk2) ∧ w'.cell? ⟨b2, o2 + j * 7 + 2, none⟩ = some (.int .i64 nn2) ∧ w'.cell? ⟨b2, o2 + j * 7 + 3, none⟩ = some (.string t2) ∧ w'.cell? ⟨b2, o2 + j * 7 + 4, none⟩ = some (.slice ba2 bn2 bc2) ∧ w'.cell? ⟨b2, o2 + j * 7 + 5, none⟩ = some (.slice fa2 fn2 fc2) ∧ w'.cell? ⟨b2, o2 + j * 7 + 6, none⟩ = some (.slice la2 ln2 lc2)) (by kernel_rfl) (hSS.out _ Step.drew) (fun hHeld => ?_)
  clear v1 v2 qn q0 q1 q2 q3 q4 q5 pn p0 p1 p2 p3 p4 p5
  refine tkH 0 ?_ rfl (by kernel_rfl) (fun _ _ _ h => h) ?_ hHeld ?_
  rotate_left
  ·intro w' hSw; (try dsimp only at hSw); go_simp
   all_goals (with_reducible rfl)
  simp only [zP, zO, zA, zB, zC, zD, zE, zF]
  refine tkH 1 ?_ rfl (by kernel_rfl) (fun _ _ _ h => h) ?_ hHeld ?_
  rotate_left
  ·intro w' hSw; (try dsimp only at hSw); go_simp
   all_goals (with_reducible rfl)
  simp only [zP, zO, zA, zB, zC, zD, zE, zF]
  refine tkH 2 ?_ rfl (by kernel_rfl) (fun _ _ _ h => h) ?_ hHeld ?_
  rotate_left
  ·intro w' hSw; (try dsimp only at hSw); go_simp
   all_goals (with_reducible rfl)
  simp only [zP, zO, zA, zB, zC, zD, zE, zF]
  refine tkH 3 ?_ rfl (by kernel_rfl) (fun _ _ _ h => h) ?_ hHeld ?_
  rotate_left
  ·intro w' hSw; (try dsimp only at hSw); go_simp
   all_goals (with_reducible rfl)
  simp only [zP, zO, zA, zB, zC, zD, zE, zF]
  refine tkH 4 ?_ rfl (by kernel_rfl) (fun _ _ _ h => h) ?_ hHeld ?_
  rotate_left
  ·intro w' hSw; (try dsimp only at hSw); go_simp
   all_goals (with_reducible rfl)
  simp only [zP, zO, zA, zB, zC, zD, zE, zF]
  refine tkH 5 ?_ rfl (by kernel_rfl) (fun _ _ _ h => h) ?_ hHeld ?_
  rotate_left
  ·intro w' hSw; (try dsimp only at hSw); go_simp
   all_goals (with_reducible rfl)
  simp only [zP, zO, zA, zB, zC, zD, zE, zF]
  refine tkH 6 ?_ rfl (by kernel_rfl) (fun _ _ _ h => h) ?_ hHeld ?_
  rotate_left
  ·intro w' hSw; (try dsimp only at hSw); go_simp
   all_goals (with_reducible rfl)
  simp only [zP, zO, zA, zB, zC, zD, zE, zF]
  refine tkH 7 ?_ rfl (by kernel_rfl) (fun _ _ _ h => h) ?_ hHeld ?_
  rotate_left
  ·intro w' hSw; (try dsimp only at hSw); go_simp
   all_goals (with_reducible rfl)
  simp only [zP, zO, zA, zB, zC, zD, zE, zF]
  refine tkH 8 ?_ rfl (by kernel_rfl) (fun _ _ _ h => h) ?_ hHeld ?_
  rotate_left
  ·intro w' hSw; (try dsimp only at hSw); go_simp
   all_goals (with_reducible rfl)
  simp only [zP, zO, zA, zB, zC, zD, zE, zF]
  refine tkH 9 ?_ rfl (by kernel_rfl) (fun _ _ _ h => h) ?_ hHeld ?_
  rotate_left
  ·intro w' hSw; (try dsimp only at hSw); go_simp
   all_goals (with_reducible rfl)
  simp only [zP, zO, zA, zB, zC, zD, zE, zF]
  refine wpAnyH_ready (rs := [10, 11]) (by kernel_rfl) (by simp) ?_
  refine AllReadyH.cons (o := _) rfl (fun K hK => ?_) (AllReadyH.cons (o := _) rfl (fun K hK => ?_) AllReadyH.nil)
  ·go_simp
   refine hK.out _ _ ?_ (fun hHeld => ?_)
   ·exact hSS.out _ (Step.drew.tail (Step.alloc _))
   clear hK K
   refine wpAnyH_ready (rs := [11]) (by kernel_rfl) (by simp) ?_
   refine AllReadyH.cons (o := _) rfl (fun K hK => ?_) AllReadyH.nil
   go_simp
   refine hK.out _ _ ?_ (fun hHeld => ?_)
   ·exact hSS.out _ ((Step.drew.tail (Step.alloc _)).tail (Step.alloc _))
   clear hK K
   refine wpAnyH_ready (rs := [12]) (by kernel_rfl) (by simp) ?_
   refine AllReadyH.cons (o := _) rfl (fun K hK => ?_) AllReadyH.nil
   go_simp
   refine hK.out _ _ ?_ (fun hHeld => ?_)
   ·exact hSS.out _ (((Step.alloc _).tail (Step.alloc _)).tail Step.drew)
   clear hK K
   refine wpAnyH_ready (rs := [13]) (by kernel_rfl) (by simp) ?_
   refine AllReadyH.cons (o := _) rfl (fun K hK => ?_) AllReadyH.nil
   go_simp
   refine hK.out _ _ ?_ (fun hHeld => ?_)
   ·exact hSS.out _ (((Step.alloc _).tail (Step.alloc _)).tail Step.drew)
   clear hK K
   refine wpAnyH_done (by kernel_rfl) ?_ _
   obtain ⟨W5, hW5⟩ : ∃ W5, W5 = ((wr.alloc (.cells #[.string A1, .int .i64 kk1, .int .i64 nn1, .string t1, .slice ba1 bn1 bc1, .slice fa1 fn1 fc1, .slice la1 ln1 lc1] 38)).alloc (.cells #[.string A2, .int .i64 kk2, .int .i64 nn2, .string t2, .slice ba2 bn2 bc2, .slice fa2 fn2 fc2, .slice la2 ln2 lc2] 38)).drew := ⟨_, rfl⟩
   rw [← hW5]
   have hs5 : Step [] id id wr W5 := by rw [hW5]; exact ((Step.alloc _).tail (Step.alloc _)).tail Step.drew
   have hbx : W5.heap[wr.heap.size]? = some (.cells #[.string A1, .int .i64 kk1, .int .i64 nn1, .string t1, .slice ba1 bn1 bc1, .slice fa1 fn1 fc1, .slice la1 ln1 lc1] 38 (0, 0)) := by rw [hW5]; (exact drewN_blk (n := 1) (alloc_old (heap_alloc_new wr _)))
   have hby : W5.heap[wr.heap.size + 1]? = some (.cells #[.string A2, .int .i64 kk2, .int .i64 nn2, .string t2, .slice ba2 bn2 bc2, .slice fa2 fn2 fc2, .slice la2 ln2 lc2] 38 (0, 0)) := by rw [hW5]; (have h := heap_alloc_new (wr.alloc (.cells #[.string A1, .int .i64 kk1, .int .i64 nn1, .string t1, .slice ba1 bn1 bc1, .slice fa1 fn1 fc1, .slice la1 ln1 lc1] 38)) (.cells #[.string A2, .int .i64 kk2, .int .i64 nn2, .string t2, .slice ba2 bn2 bc2, .slice fa2 fn2 fc2, .slice la2 ln2 lc2] 38); rw [show (wr.alloc (.cells #[.string A1, .int .i64 kk1, .int .i64 nn1, .string t1, .slice ba1 bn1 bc1, .slice fa1 fn1 fc1, .slice la1 ln1 lc1] 38)).heap.size = wr.heap.size + 1 by simp] at h; exact drewN_blk (n := 1) h)
   have hXX := Lib.hid (fun (W : World) (hW : Step [] id id W5 W) => And.intro (cells7 (hW.at hbx (by simp))) (cells7 (hW.at hby (by simp))))
   obtain ⟨⟨x0, x1, x2, x3, x4, x5, x6⟩, y0, y1, y2, y3, y4, y5, y6⟩ := hXX.out W5 (Step.refl _ _ _)
   have hs5H := Lib.hid hs5
   have gx := lt_of_block hbx
   have gy := lt_of_block hby
   clear hHeld hs5 hW5 hbx hby
   go_wp2_with fail
   go_quiet ((first | (go_at_call 47; exact quietL (hcl.out _ _)) | (go_at_call 46; exact quietL (hsg.out _ _ _))))
   rw [← hD1H.out, ← hD2H.out, ← hDH.out]
   obtain ⟨W6, hW6⟩ : ∃ W6, W6 = W5.drewN nq := ⟨_, rfl⟩
   rw [← hW6]
   have hs6 : Step [] id id W5 W6 := by rw [hW6]; exact Step.drewN _ _
   have hs6H := Lib.hid hs6
   clear x0 x1 x2 x3 x4 x5 x6 y0 y1 y2 y3 y4 y5 y6
   obtain ⟨⟨x0, x1, x2, x3, x4, x5, x6⟩, y0, y1, y2, y3, y4, y5, y6⟩ := hXX.out W6 hs6
   clear hs6 hW6
   by_cases hD0 : D = 0
   rotate_left
   ·have hDb : (D == 0) = false := by rw [beq_eq_false_iff_ne]; exact hD0
    have hDc : (D != 0) = true := by rw [bne_iff_ne]; exact hD0
    have hres := Lib.hid (show C0 = D by rw [hdH.out, orI, if_pos (by rw [orI, if_pos hD0]; exact hD0), orI, if_pos hD0])
    clear hD0
    go_wp2_with fail
    go_ret
    exact ⟨by rw [hres.out]; rfl, hAH.out.tail (hstH.out.tail (hs5H.out.tail hs6H.out))⟩
   have hDb : (D == 0) = true := by rw [hD0]; rfl
   have hd2 := hdH.out
   rw [hD0, orI_zero] at hd2
   have hdH2 := Lib.hid hd2
   clear hd2 hD0
   go_wp2_with fail
   refine (htxH.out _).mono ?_
   rintro e w7 ⟨rfl, hs7⟩
   have hs7H := Lib.hid (hs6H.out.tail hs7)
   clear x0 x1 x2 x3 x4 x5 x6 y0 y1 y2 y3 y4 y5 y6 gx gy hs7
   obtain ⟨⟨x0, x1, x2, x3, x4, x5, x6⟩, y0, y1, y2, y3, y4, y5, y6⟩ := hXX.out w7 hs7H.out
   have gx := World.block_lt_of_cell? _ _ x0
   have gy := World.block_lt_of_cell? _ _ y0
   by_cases hB0 : B = 0
   rotate_left
   ·have hBb : (B == 0) = false := by rw [beq_eq_false_iff_ne]; exact hB0
    have hBc : (B != 0) = true := by rw [bne_iff_ne]; exact hB0
    have hres := Lib.hid (show C0 = B by rw [hdH2.out, orI, if_pos (by rw [orI, if_pos hB0]; exact hB0), orI, if_pos hB0])
    clear hB0
    go_wp2_with fail
    go_ret
    exact ⟨by rw [hres.out]; rfl, hAH.out.tail (hstH.out.tail (hs5H.out.tail hs7H.out))⟩
   have hBb : (B == 0) = true := by rw [hB0]; rfl
   have hd3 := hdH2.out
   rw [hB0, orI_zero] at hd3
   have hdH3 := Lib.hid hd3
   clear hd3 hB0
   go_wp2_with fail
   refine (hcall.out _ (hs5H.out.tail hs7H.out)).mono ?_
   rintro e w8 ⟨rfl, hs8⟩
   have hs8H := Lib.hid (hstH.out.tail (hs5H.out.tail (hs7H.out.tail hs8)))
   clear x0 x1 x2 x3 x4 x5 x6 y0 y1 y2 y3 y4 y5 y6 gx gy hs8
   by_cases hV0 : V = 0
   rotate_left
   ·have hVc : (V != 0) = true := by rw [bne_iff_ne]; exact hV0
    have hres := Lib.hid (show C0 = V by rw [hdH3.out, orI, if_pos hV0])
    clear hV0
    go_wp2_with fail
    go_ret
    exact ⟨by rw [hres.out]; rfl, hAH.out.tail hs8H.out⟩
   have hVb : (V != 0) = false := by rw [hV0]; rfl
   have hd4 := hdH3.out
   rw [hV0, orI_zero] at hd4
   have hdH4 := Lib.hid hd4
   clear hd4 hV0
   go_wp2_with fail
   go_roundw
   case rel => exact ⟨j + 1, by go_num, by omega, by omega, hdH4.out, hs8H.out⟩
   case measure => simp [intOf]; omega
  ·go_simp
   refine hK.out _ _ ?_ (fun hHeld => ?_)
   ·exact hSS.out _ (Step.drew.tail (Step.alloc _))
   clear hK K
   refine wpAnyH_ready (rs := [10]) (by kernel_rfl) (by simp) ?_
   refine AllReadyH.cons (o := _) rfl (fun K hK => ?_) AllReadyH.nil
   go_simp
   refine hK.out _ _ ?_ (fun hHeld => ?_)
   ·exact hSS.out _ ((Step.drew.tail (Step.alloc _)).tail (Step.alloc _))
   clear hK K
   refine wpAnyH_ready (rs := [12]) (by kernel_rfl) (by simp) ?_
   refine AllReadyH.cons (o := _) rfl (fun K hK => ?_) AllReadyH.nil
   go_simp
   refine hK.out _ _ ?_ (fun hHeld => ?_)
   ·exact hSS.out _ (((Step.alloc _).tail (Step.alloc _)).tail Step.drew)
   clear hK K
   refine wpAnyH_ready (rs := [13]) (by kernel_rfl) (by simp) ?_
   refine AllReadyH.cons (o := _) rfl (fun K hK => ?_) AllReadyH.nil
   go_simp
   refine hK.out _ _ ?_ (fun hHeld => ?_)
   ·exact hSS.out _ (((Step.alloc _).tail (Step.alloc _)).tail Step.drew)
   clear hK K
   refine wpAnyH_done (by kernel_rfl) ?_ _
   obtain ⟨W5, hW5⟩ : ∃ W5, W5 = ((wr.alloc (.cells #[.string A2, .int .i64 kk2, .int .i64 nn2, .string t2, .slice ba2 bn2 bc2, .slice fa2 fn2 fc2, .slice la2 ln2 lc2] 38)).alloc (.cells #[.string A1, .int .i64 kk1, .int .i64 nn1, .string t1, .slice ba1 bn1 bc1, .slice fa1 fn1 fc1, .slice la1 ln1 lc1] 38)).drew := ⟨_, rfl⟩
   rw [← hW5]
   have hs5 : Step [] id id wr W5 := by rw [hW5]; exact ((Step.alloc _).tail (Step.alloc _)).tail Step.drew
   have hbx : W5.heap[wr.heap.size + 1]? = some (.cells #[.string A1, .int .i64 kk1, .int .i64 nn1, .string t1, .slice ba1 bn1 bc1, .slice fa1 fn1 fc1, .slice la1 ln1 lc1] 38 (0, 0)) := by rw [hW5]; (have h := heap_alloc_new (wr.alloc (.cells #[.string A2, .int .i64 kk2, .int .i64 nn2, .string t2, .slice ba2 bn2 bc2, .slice fa2 fn2 fc2, .slice la2 ln2 lc2] 38)) (.cells #[.string A1, .int .i64 kk1, .int .i64 nn1, .string t1, .slice ba1 bn1 bc1, .slice fa1 fn1 fc1, .slice la1 ln1 lc1] 38); rw [show (wr.alloc (.cells #[.string A2, .int .i64 kk2, .int .i64 nn2, .string t2, .slice ba2 bn2 bc2, .slice fa2 fn2 fc2, .slice la2 ln2 lc2] 38)).heap.size = wr.heap.size + 1 by simp] at h; exact drewN_blk (n := 1) h)
   have hby : W5.heap[wr.heap.size]? = some (.cells #[.string A2, .int .i64 kk2, .int .i64 nn2, .string t2, .slice ba2 bn2 bc2, .slice fa2 fn2 fc2, .slice la2 ln2 lc2] 38 (0, 0)) := by rw [hW5]; (exact drewN_blk (n := 1) (alloc_old (heap_alloc_new wr _)))
   have hXX := Lib.hid (fun (W : World) (hW : Step [] id id W5 W) => And.intro (cells7 (hW.at hbx (by simp))) (cells7 (hW.at hby (by simp))))
   obtain ⟨⟨x0, x1, x2, x3, x4, x5, x6⟩, y0, y1, y2, y3, y4, y5, y6⟩ := hXX.out W5 (Step.refl _ _ _)
   have hs5H := Lib.hid hs5
   have gx := lt_of_block hbx
   have gy := lt_of_block hby
   clear hHeld hs5 hW5 hbx hby
   go_wp2_with fail
   go_quiet ((first | (go_at_call 47; exact quietL (hcl.out _ _)) | (go_at_call 46; exact quietL (hsg.out _ _ _))))
   rw [← hD1H.out, ← hD2H.out, ← hDH.out]
   obtain ⟨W6, hW6⟩ : ∃ W6, W6 = W5.drewN nq := ⟨_, rfl⟩
   rw [← hW6]
   have hs6 : Step [] id id W5 W6 := by rw [hW6]; exact Step.drewN _ _
   have hs6H := Lib.hid hs6
   clear x0 x1 x2 x3 x4 x5 x6 y0 y1 y2 y3 y4 y5 y6
   obtain ⟨⟨x0, x1, x2, x3, x4, x5, x6⟩, y0, y1, y2, y3, y4, y5, y6⟩ := hXX.out W6 hs6
   clear hs6 hW6
   by_cases hD0 : D = 0
   rotate_left
   ·have hDb : (D == 0) = false := by rw [beq_eq_false_iff_ne]; exact hD0
    have hDc : (D != 0) = true := by rw [bne_iff_ne]; exact hD0
    have hres := Lib.hid (show C0 = D by rw [hdH.out, orI, if_pos (by rw [orI, if_pos hD0]; exact hD0), orI, if_pos hD0])
    clear hD0
    go_wp2_with fail
    go_ret
    exact ⟨by rw [hres.out]; rfl, hAH.out.tail (hstH.out.tail (hs5H.out.tail hs6H.out))⟩
   have hDb : (D == 0) = true := by rw [hD0]; rfl
   have hd2 := hdH.out
   rw [hD0, orI_zero] at hd2
   have hdH2 := Lib.hid hd2
   clear hd2 hD0
   go_wp2_with fail
   refine (htxH.out _).mono ?_
   rintro e w7 ⟨rfl, hs7⟩
   have hs7H := Lib.hid (hs6H.out.tail hs7)
   clear x0 x1 x2 x3 x4 x5 x6 y0 y1 y2 y3 y4 y5 y6 gx gy hs7
   obtain ⟨⟨x0, x1, x2, x3, x4, x5, x6⟩, y0, y1, y2, y3, y4, y5, y6⟩ := hXX.out w7 hs7H.out
   have gx := World.block_lt_of_cell? _ _ x0
   have gy := World.block_lt_of_cell? _ _ y0
   by_cases hB0 : B = 0
   rotate_left
   ·have hBb : (B == 0) = false := by rw [beq_eq_false_iff_ne]; exact hB0
    have hBc : (B != 0) = true := by rw [bne_iff_ne]; exact hB0
    have hres := Lib.hid (show C0 = B by rw [hdH2.out, orI, if_pos (by rw [orI, if_pos hB0]; exact hB0), orI, if_pos hB0])
    clear hB0
    go_wp2_with fail
    go_ret
    exact ⟨by rw [hres.out]; rfl, hAH.out.tail (hstH.out.tail (hs5H.out.tail hs7H.out))⟩
   have hBb : (B == 0) = true := by rw [hB0]; rfl
   have hd3 := hdH2.out
   rw [hB0, orI_zero] at hd3
   have hdH3 := Lib.hid hd3
   clear hd3 hB0
   go_wp2_with fail
   refine (hcall.out _ (hs5H.out.tail hs7H.out)).mono ?_
   rintro e w8 ⟨rfl, hs8⟩
   have hs8H := Lib.hid (hstH.out.tail (hs5H.out.tail (hs7H.out.tail hs8)))
   clear x0 x1 x2 x3 x4 x5 x6 y0 y1 y2 y3 y4 y5 y6 gx gy hs8
   by_cases hV0 : V = 0
   rotate_left
   ·have hVc : (V != 0) = true := by rw [bne_iff_ne]; exact hV0
    have hres := Lib.hid (show C0 = V by rw [hdH3.out, orI, if_pos hV0])
    clear hV0
    go_wp2_with fail
    go_ret
    exact ⟨by rw [hres.out]; rfl, hAH.out.tail hs8H.out⟩
   have hVb : (V != 0) = false := by rw [hV0]; rfl
   have hd4 := hdH3.out
   rw [hV0, orI_zero] at hd4
   have hdH4 := Lib.hid hd4
   clear hd4 hV0
   go_wp2_with fail
   go_roundw
   case rel => exact ⟨j + 1, by go_num, by omega, by omega, hdH4.out, hs8H.out⟩
   case measure => simp [intOf]; omega
end Go.Proofs.YtembpajlllnncaaGreatDoor
namespace Go.Proofs.YtembpajlllnncaaGreatDoor
open Go.RowKit

theorem cmpV_cls {y z : Val} (hk : clsOf y.kind = clsOf z.kind) : cmpV y z = (if y.kind = 3 ∨ y.kind = 4 ∨ y.kind = 10 ∨ y.kind = 11 then sgnI y.num z.num else if y.kind = 5 then cmpB y.s z.s else if y.kind = 6 then cmpFs y.f z.f else if y.kind = 7 then cmpLs y.l z.l
    else if y.kind = 8 then orI (sgnI y.b.length z.b.length) (cmpB y.b z.b) else if y.kind = 9 then cmpB y.b z.b else 0) := by
 cases y with
 | mk k n s b f l =>
  simp only [Val.kind] at hk
  rw [cmpV, hk]
  simp only [Val.kind, Val.num, Val.s, Val.b, Val.f, Val.l, sgnI_self]
  rfl
theorem cmpV_far {y z : Val} (hk : clsOf y.kind ≠ clsOf z.kind) : cmpV y z = sgnI (clsOf y.kind) (clsOf z.kind) := by
 have h0 : sgnI (clsOf y.kind) (clsOf z.kind) ≠ 0 := by
  unfold sgnI
  split
  ·omega
  ·split <;> omega
 have e : ∃ X, cmpV y z = orI (sgnI (clsOf y.kind) (clsOf z.kind)) X := by
  cases y with
  | mk k n s b f l => exact ⟨_, by rw [cmpV]; rfl⟩
 obtain ⟨X, e⟩ := e
 rw [e, orI, if_pos h0]
theorem rcmpH_all : ∀ (N : Nat) (y z : Val), SizeOf.sizeOf y < N → RCmpH y z
 | 0, _, _, h => absurd h (Nat.not_lt_zero _)
 | N + 1, y, z, hN => by
  have hsub : ∀ (v : Val), SizeOf.sizeOf v < SizeOf.sizeOf y → ∀ u, RCmpH v u := fun v hv u => rcmpH_all N v u (by omega)
  intro Q Q' W cs ds hy hz
  obtain ⟨bv, fa, fc, la, lc, hcs, hb, -, -, hsz, hff, hll⟩ := hy.cells
  obtain ⟨ba, bc, rfl⟩ := hb.shape
  obtain ⟨bv2, fa2, fc2, la2, lc2, hds, hb2, -, -, hsz2, hff2, hll2⟩ := hz.cells
  obtain ⟨ba2, bc2, rfl⟩ := hb2.shape
  subst hcs hds
  by_cases hcls : clsOf y.kind = clsOf z.kind
  rotate_left
  ·rw [cmpV_far hcls]; exact rcmp_class hcls
  rw [cmpV_cls hcls]
  by_cases hn : y.kind = 3 ∨ y.kind = 4 ∨ y.kind = 10 ∨ y.kind = 11
  ·rw [if_pos hn]; exact rcmp_num hcls hn
  rw [if_neg hn]
  by_cases h5 : y.kind = 5
  ·rw [if_pos h5]; exact rcmp_text hcls h5 (by omega) (by omega)
  rw [if_neg h5]
  by_cases h6 : y.kind = 6
  ·rw [if_pos h6]; exact rcmp_doc hcls h6 hff hff2 rfl rfl (by omega) (by omega) (fun j h1 h2 => hsub _ (by cases y; exact f_size h1) _)
  rw [if_neg h6]
  by_cases h7 : y.kind = 7
  ·rw [if_pos h7]; exact rcmp_list hcls h7 hll hll2 rfl rfl (by omega) (by omega) (fun j h1 h2 => hsub _ (by cases y; exact l_size h1) _)
  rw [if_neg h7]
  by_cases h8 : y.kind = 8
  ·rw [if_pos h8]; exact rcmp_bytes hcls h8 (by omega) (by omega) hb hb2
  rw [if_neg h8]
  by_cases h9 : y.kind = 9
  ·rw [if_pos h9]; exact rcmp_id hcls h9 (by omega) (by omega) hb hb2
  rw [if_neg h9]
  exact rcmp_none hcls ⟨hn, by omega⟩
/-- The reference orders any two values as the program does. -/
theorem ref_compare (y z : Val) : RCmpH y z := rcmpH_all (SizeOf.sizeOf y + 1) y z (Nat.lt_succ_self _)
end Go.Proofs.YtembpajlllnncaaGreatDoor
