/- AccumAdds: the reference: Two, adding. AccumAdds: the reference: a state of nothing; what a state comes to. AccumAdds: the reference: one more value: the kinds that keep one. AccumAdds: the reference: a sum takes a number. -/
import Derived.Test.YtembpajlllnncaaGreatDoorAdL
import Derived.Test.YtembpajlllnncaaGreatDoorAcL
import Derived.Test.YtembpajlllnncaaGreatDoorAcY
set_option linter.unusedVariables false
set_option linter.unusedSimpArgs false
namespace Go.Proofs.YtembpajlllnncaaGreatDoor
open Go.RowKit

theorem ref_none_n {k : Int} {n s b f l : Value} (w : World) (h : k = 3 ∨ k = 4) : Calls Tryz.prog 44 #[.agg #[.int .i64 k, n, s, b, f, l]] w fun e w' => e = .returned (.bool false) ∧ Step [] id id w w' :=
 (ref_none5 w).mono fun e w' h' => ⟨by rw [h'.1, decide_eq_false (by omega)], h'.2⟩
theorem ref_number_n {k : Int} {n s b f l : Value} (w : World) (h : k = 3 ∨ k = 4) : Calls Tryz.prog 45 #[.agg #[.int .i64 k, n, s, b, f, l]] w fun e w' => e = .returned (.bool true) ∧ Step [] id id w w' :=
 (ref_number w).mono fun e w' h' => ⟨by rw [h'.1, decide_eq_true h], h'.2⟩
set_option maxRecDepth 100000 in
set_option maxHeartbeats 4000000 in
theorem ref_two {k1 n1 k2 n2 : Int} {s1 b1 f1 l1 s2 b2 f2 l2 : Value} (w : World) (h1 : k1 = 3 ∨ k1 = 4) (h2 : k2 = 3 ∨ k2 = 4) (hx : inR n1) (hy : inR n2) :
  Calls Tryz.prog 32 #[.int .u8 43, .agg #[.int .i64 k1, .int .i64 n1, s1, b1, f1, l1], .agg #[.int .i64 k2, .int .i64 n2, s2, b2, f2, l2]] w (SumP k1 n1 k2 n2 w) := by
 obtain ⟨W3, hW3⟩ : ∃ W3, W3 = ((w.alloc (.cells #[.int .i64 k1, .int .i64 n1, s1, b1, f1, l1] 35)).alloc (.cells #[.int .i64 k2, .int .i64 n2, s2, b2, f2, l2] 35)).alloc (.cells #[.int .i64 0, .int .i64 0, (.string ⟨#[]⟩), (.slice none 0 0), (.slice none 0 0), (.slice none 0 0)] 35) := ⟨_, rfl⟩
 have hW3H := Lib.hid hW3
 go_enter Tryz.func32, Tryz.ntmps32
 go_wp2_with fail
 rw [← hW3H.out]
 have hA : Step [] id id w W3 := by rw [hW3]; exact ((Step.alloc _).tail (Step.alloc _)).tail (Step.alloc _)
 have hb0 : W3.heap[w.heap.size]? = some (.cells #[.int .i64 k1, .int .i64 n1, s1, b1, f1, l1] 35 (0, 0)) := by rw [hW3]; exact alloc_old (alloc_old (heap_alloc_new w _))
 have hb1 : W3.heap[w.heap.size + 1]? = some (.cells #[.int .i64 k2, .int .i64 n2, s2, b2, f2, l2] 35 (0, 0)) := by
  rw [hW3]; refine alloc_old ?_
  have := heap_alloc_new (w.alloc (.cells #[.int .i64 k1, .int .i64 n1, s1, b1, f1, l1] 35)) (.cells #[.int .i64 k2, .int .i64 n2, s2, b2, f2, l2] 35)
  rwa [show (w.alloc (.cells #[.int .i64 k1, .int .i64 n1, s1, b1, f1, l1] 35)).heap.size = w.heap.size + 1 by simp] at this
 have hb2 : W3.heap[w.heap.size + 1 + 1]? = some (.cells #[.int .i64 0, .int .i64 0, (.string ⟨#[]⟩), (.slice none 0 0), (.slice none 0 0), (.slice none 0 0)] 35 (0, 0)) := by
  rw [hW3]
  have := heap_alloc_new ((w.alloc (.cells #[.int .i64 k1, .int .i64 n1, s1, b1, f1, l1] 35)).alloc (.cells #[.int .i64 k2, .int .i64 n2, s2, b2, f2, l2] 35)) (.cells #[.int .i64 0, .int .i64 0, (.string ⟨#[]⟩), (.slice none 0 0), (.slice none 0 0), (.slice none 0 0)] 35)
  rwa [show ((w.alloc (.cells #[.int .i64 k1, .int .i64 n1, s1, b1, f1, l1] 35)).alloc (.cells #[.int .i64 k2, .int .i64 n2, s2, b2, f2, l2] 35)).heap.size = w.heap.size + 1 + 1 by simp] at this
 have hAH := Lib.hid hA
 have hb0H := Lib.hid hb0
 have hb1H := Lib.hid hb1
 have hb2H := Lib.hid hb2
 clear hW3 hA hb0 hb1 hb2
 refine (ref_none_n W3 h1).mono ?_
 rintro e w4 ⟨rfl, hs4⟩
 have hA2 := hAH.out.tail hs4
 have hb0 := hs4.at hb0H.out (by simp)
 have hb1 := hs4.at hb1H.out (by simp)
 have hb2 := hs4.at hb2H.out (by simp)
 (try clear a0 a1 a2 a3 a4 a5)
 (try clear c0 c1 c2 c3 c4 c5)
 (try clear z0 z1 z2 z3 z4 z5)
 (try clear fz)
 (try clear lt0 lt1 lt2)
 clear hAH hb0H hb1H hb2H
 have hAH := Lib.hid hA2
 have hb0H := Lib.hid hb0
 have hb1H := Lib.hid hb1
 have hb2H := Lib.hid hb2
 have lt0 := lt_of_block hb0
 have lt1 := lt_of_block hb1
 have lt2 := lt_of_block hb2
 obtain ⟨a0, a1, a2, a3, a4, a5⟩ := cells6A hb0
 obtain ⟨c0, c1, c2, c3, c4, c5⟩ := cells6A hb1
 obtain ⟨z0, z1, z2, z3, z4, z5⟩ := cells6A hb2
 have fz := free_blk hb2
 clear hA2 hb0 hb1 hb2 hs4
 go_wp2_with fail
 refine (ref_none_n w4 h2).mono ?_
 rintro e w5 ⟨rfl, hs5⟩
 have hA2 := hAH.out.tail hs5
 have hb0 := hs5.at hb0H.out (by simp)
 have hb1 := hs5.at hb1H.out (by simp)
 have hb2 := hs5.at hb2H.out (by simp)
 (try clear a0 a1 a2 a3 a4 a5)
 (try clear c0 c1 c2 c3 c4 c5)
 (try clear z0 z1 z2 z3 z4 z5)
 (try clear fz)
 (try clear lt0 lt1 lt2)
 clear hAH hb0H hb1H hb2H
 have hAH := Lib.hid hA2
 have hb0H := Lib.hid hb0
 have hb1H := Lib.hid hb1
 have hb2H := Lib.hid hb2
 have lt0 := lt_of_block hb0
 have lt1 := lt_of_block hb1
 have lt2 := lt_of_block hb2
 obtain ⟨a0, a1, a2, a3, a4, a5⟩ := cells6A hb0
 obtain ⟨c0, c1, c2, c3, c4, c5⟩ := cells6A hb1
 obtain ⟨z0, z1, z2, z3, z4, z5⟩ := cells6A hb2
 have fz := free_blk hb2
 clear hA2 hb0 hb1 hb2 hs5
 go_wp2_with fail
 refine (ref_number_n w5 h1).mono ?_
 rintro e w6 ⟨rfl, hs6⟩
 have hA2 := hAH.out.tail hs6
 have hb0 := hs6.at hb0H.out (by simp)
 have hb1 := hs6.at hb1H.out (by simp)
 have hb2 := hs6.at hb2H.out (by simp)
 (try clear a0 a1 a2 a3 a4 a5)
 (try clear c0 c1 c2 c3 c4 c5)
 (try clear z0 z1 z2 z3 z4 z5)
 (try clear fz)
 (try clear lt0 lt1 lt2)
 clear hAH hb0H hb1H hb2H
 have hAH := Lib.hid hA2
 have hb0H := Lib.hid hb0
 have hb1H := Lib.hid hb1
 have hb2H := Lib.hid hb2
 have lt0 := lt_of_block hb0
 have lt1 := lt_of_block hb1
 have lt2 := lt_of_block hb2
 obtain ⟨a0, a1, a2, a3, a4, a5⟩ := cells6A hb0
 obtain ⟨c0, c1, c2, c3, c4, c5⟩ := cells6A hb1
 obtain ⟨z0, z1, z2, z3, z4, z5⟩ := cells6A hb2
 have fz := free_blk hb2
 clear hA2 hb0 hb1 hb2 hs6
 go_wp2_with fail
 refine (ref_number_n w6 h2).mono ?_
 rintro e w7 ⟨rfl, hs7⟩
 have hA2 := hAH.out.tail hs7
 have hb0 := hs7.at hb0H.out (by simp)
 have hb1 := hs7.at hb1H.out (by simp)
 have hb2 := hs7.at hb2H.out (by simp)
 (try clear a0 a1 a2 a3 a4 a5)
 (try clear c0 c1 c2 c3 c4 c5)
 (try clear z0 z1 z2 z3 z4 z5)
 (try clear fz)
 (try clear lt0 lt1 lt2)
 clear hAH hb0H hb1H hb2H
 have hAH := Lib.hid hA2
 have hb0H := Lib.hid hb0
 have hb1H := Lib.hid hb1
 have hb2H := Lib.hid hb2
 have lt0 := lt_of_block hb0
 have lt1 := lt_of_block hb1
 have lt2 := lt_of_block hb2
 obtain ⟨a0, a1, a2, a3, a4, a5⟩ := cells6A hb0
 obtain ⟨c0, c1, c2, c3, c4, c5⟩ := cells6A hb1
 obtain ⟨z0, z1, z2, z3, z4, z5⟩ := cells6A hb2
 have fz := free_blk hb2
 clear hA2 hb0 hb1 hb2 hs7
 by_cases hr : inR (n1 + n2)
 ·have hres := Lib.hid hr
  have hw : IntKind.i64.wrap (n1 + n2) = n1 + n2 := IntWalk.i64_in _ hr
  have hgd : (decide (0 ≤ n2) == decide (n1 ≤ n1 + n2)) = true := by
   rw [beq_iff_eq, decide_eq_decide]; omega
  clear hr
  go_wp2_with fail
  refine (ref_of (n1 + n2) w7).mono ?_
  rintro e w8 ⟨rfl, hs8⟩
  have hA2 := hAH.out.tail hs8
  have hb0 := hs8.at hb0H.out (by simp)
  have hb1 := hs8.at hb1H.out (by simp)
  have hb2 := hs8.at hb2H.out (by simp)
  (try clear a0 a1 a2 a3 a4 a5)
  (try clear c0 c1 c2 c3 c4 c5)
  (try clear z0 z1 z2 z3 z4 z5)
  (try clear fz)
  (try clear lt0 lt1 lt2)
  clear hAH hb0H hb1H hb2H
  have hAH := Lib.hid hA2
  have hb0H := Lib.hid hb0
  have hb1H := Lib.hid hb1
  have hb2H := Lib.hid hb2
  have lt0 := lt_of_block hb0
  have lt1 := lt_of_block hb1
  have lt2 := lt_of_block hb2
  obtain ⟨a0, a1, a2, a3, a4, a5⟩ := cells6A hb0
  obtain ⟨c0, c1, c2, c3, c4, c5⟩ := cells6A hb1
  obtain ⟨z0, z1, z2, z3, z4, z5⟩ := cells6A hb2
  have fz := free_blk hb2
  clear hA2 hb0 hb1 hb2 hs8
  obtain ⟨K, hK⟩ : ∃ K, K = kindI (n1 + n2) := ⟨_, rfl⟩
  rw [← hK]
  have hKH := Lib.hid hK
  clear hK
  rcases h1 with rfl | rfl
  ·rcases h2 with rfl | rfl
   ·go_wp2_with fail
    change bodyPost _ _ _ _ _ ((set6 w8 (w.heap.size + 1 + 1) (.int .i64 K) (.int .i64 (n1 + n2)) (.string ⟨#[]⟩) (.slice none 0 0) (.slice none 0 0) (.slice none 0 0)).alloc (.cells #[.int .i64 K, .int .i64 (n1 + n2), (.string ⟨#[]⟩), (.slice none 0 0), (.slice none 0 0), (.slice none 0 0)] 35))
    refine bodyPost_ret (results_v2 rfl rfl rfl (alloc_old (set6_heap hb2H.out))) rfl ?_
    have hs : Step [] id id w ((set6 w8 (w.heap.size + 1 + 1) (.int .i64 K) (.int .i64 (n1 + n2)) (.string ⟨#[]⟩) (.slice none 0 0) (.slice none 0 0) (.slice none 0 0)).alloc (.cells #[.int .i64 K, .int .i64 (n1 + n2), (.string ⟨#[]⟩), (.slice none 0 0), (.slice none 0 0), (.slice none 0 0)] 35)) := (hAH.out.tailNew (T2 := [w.heap.size + 1 + 1]) (.grown set6_grown (fun k hk => by cases hk; simp)) (by simp; omega)).tail (Step.alloc _)
    unfold SumP sumC
    rw [if_pos hres.out, if_pos hres.out]
    rw [if_neg (by omega), ← hKH.out]
    exact ⟨rfl, hs⟩
   ·go_wp2_with fail
    change bodyPost _ _ _ _ _ ((set6 w8 (w.heap.size + 1 + 1) (.int .i64 4) (.int .i64 (n1 + n2)) (.string ⟨#[]⟩) (.slice none 0 0) (.slice none 0 0) (.slice none 0 0)).alloc (.cells #[.int .i64 4, .int .i64 (n1 + n2), (.string ⟨#[]⟩), (.slice none 0 0), (.slice none 0 0), (.slice none 0 0)] 35))
    refine bodyPost_ret (results_v2 rfl rfl rfl (alloc_old (set6_heap hb2H.out))) rfl ?_
    have hs : Step [] id id w ((set6 w8 (w.heap.size + 1 + 1) (.int .i64 4) (.int .i64 (n1 + n2)) (.string ⟨#[]⟩) (.slice none 0 0) (.slice none 0 0) (.slice none 0 0)).alloc (.cells #[.int .i64 4, .int .i64 (n1 + n2), (.string ⟨#[]⟩), (.slice none 0 0), (.slice none 0 0), (.slice none 0 0)] 35)) := (hAH.out.tailNew (T2 := [w.heap.size + 1 + 1]) (.grown set6_grown (fun k hk => by cases hk; simp)) (by simp; omega)).tail (Step.alloc _)
    unfold SumP sumC
    rw [if_pos hres.out, if_pos hres.out]
    rw [if_pos (.inr rfl)]
    exact ⟨rfl, hs⟩
  ·go_wp2_with fail
   change bodyPost _ _ _ _ _ ((set6 w8 (w.heap.size + 1 + 1) (.int .i64 4) (.int .i64 (n1 + n2)) (.string ⟨#[]⟩) (.slice none 0 0) (.slice none 0 0) (.slice none 0 0)).alloc (.cells #[.int .i64 4, .int .i64 (n1 + n2), (.string ⟨#[]⟩), (.slice none 0 0), (.slice none 0 0), (.slice none 0 0)] 35))
   refine bodyPost_ret (results_v2 rfl rfl rfl (alloc_old (set6_heap hb2H.out))) rfl ?_
   have hs : Step [] id id w ((set6 w8 (w.heap.size + 1 + 1) (.int .i64 4) (.int .i64 (n1 + n2)) (.string ⟨#[]⟩) (.slice none 0 0) (.slice none 0 0) (.slice none 0 0)).alloc (.cells #[.int .i64 4, .int .i64 (n1 + n2), (.string ⟨#[]⟩), (.slice none 0 0), (.slice none 0 0), (.slice none 0 0)] 35)) := (hAH.out.tailNew (T2 := [w.heap.size + 1 + 1]) (.grown set6_grown (fun k hk => by cases hk; simp)) (by simp; omega)).tail (Step.alloc _)
   unfold SumP sumC
   rw [if_pos hres.out, if_pos hres.out]
   rw [if_pos (.inl rfl)]
   exact ⟨rfl, hs⟩
 ·have hres := Lib.hid hr
  obtain ⟨NN, hw, hNN⟩ : ∃ NN : Int, wrap64 (n1 + n2) = NN ∧ ((decide (0 ≤ n2) = true ∧ decide (n1 ≤ NN) = false) ∨ (decide (0 ≤ n2) = false ∧ decide (n1 ≤ NN) = true)) := by
   refine ⟨_, rfl, ?_⟩
   have hx' := hx
   have hy' := hy
   unfold inR at hr hx' hy'
   rw [decide_eq_true_eq, decide_eq_false_iff_not, decide_eq_false_iff_not, decide_eq_true_eq]
   unfold wrap64
   omega
  clear hr
  rcases hNN with ⟨hg1, hg2⟩ | ⟨hg1, hg2⟩
  ·go_wp2_with fail
   change bodyPost _ _ _ _ _ (set6 w7 (w.heap.size + 1 + 1) (.int .i64 0) (.int .i64 0) (.string ⟨#[]⟩) (.slice none 0 0) (.slice none 0 0) (.slice none 0 0))
   refine bodyPost_ret (results_v2 rfl rfl rfl (set6_heap hb2H.out)) rfl ?_
   unfold SumP sumC
   rw [if_neg hres.out, if_neg hres.out]
   exact ⟨rfl, hAH.out.tailNew (T2 := [w.heap.size + 1 + 1]) (.grown set6_grown (fun k hk => by cases hk; simp)) (by simp; omega)⟩
  ·go_wp2_with fail
   change bodyPost _ _ _ _ _ (set6 w7 (w.heap.size + 1 + 1) (.int .i64 0) (.int .i64 0) (.string ⟨#[]⟩) (.slice none 0 0) (.slice none 0 0) (.slice none 0 0))
   refine bodyPost_ret (results_v2 rfl rfl rfl (set6_heap hb2H.out)) rfl ?_
   unfold SumP sumC
   rw [if_neg hres.out, if_neg hres.out]
   exact ⟨rfl, hAH.out.tailNew (T2 := [w.heap.size + 1 + 1]) (.grown set6_grown (fun k hk => by cases hk; simp)) (by simp; omega)⟩
end Go.Proofs.YtembpajlllnncaaGreatDoor
namespace Go.Proofs.YtembpajlllnncaaGreatDoor
open Go.RowKit

/-- A reference's state: its eight cells. -/
def StR (w : World) (M : Nat) (K N : Int) (v0 v1 v2 v3 v4 v5 : Value) : Prop := w.heap[M]? = some (.cells #[.int .i64 K, .int .i64 N, v0, v1, v2, v3, v4, v5] 50 (0, 0))
/-- The kind of what it begins with. -/
def startR (K : Int) : Int := if K = 1 then 3 else if K = 6 ∨ K = 7 then 7 else 0
set_option maxRecDepth 100000 in
set_option maxHeartbeats 2000000 in
theorem newr_plain (K : Int) (hK : ¬ (K = 1 ∨ K = 6 ∨ K = 7)) (w : World) : Calls Tryz.prog 7 #[.int .i64 K] w fun e w' => e = .returned (.pointer (some ⟨w.heap.size, 0, none⟩)) ∧ StR w' w.heap.size (K) 0 (.int .i64 (0)) (.int .i64 0) (.string ⟨#[]⟩) (.slice none 0 0) (.slice none 0 0) (.slice none 0 0) ∧ Step [] id id w w' := by
 have e1 : (K == 1) = false := by rw [beq_eq_false_iff_ne]; omega
 have e6 : (K == 6) = false := by rw [beq_eq_false_iff_ne]; omega
 have e7 : (K == 7) = false := by rw [beq_eq_false_iff_ne]; omega
 clear hK
 go_enter Tryz.func7, Tryz.ntmps7
 go_wp2_with fail
 go_ret
 exact ⟨rfl, heap_alloc_new w _, Step.alloc _⟩
set_option maxRecDepth 100000 in
set_option maxHeartbeats 2000000 in
theorem newr_list (K : Int) (hK : K = 6 ∨ K = 7) (w : World) : Calls Tryz.prog 7 #[.int .i64 K] w fun e w' => e = .returned (.pointer (some ⟨w.heap.size, 0, none⟩)) ∧ StR w' w.heap.size (K) 0 (.int .i64 (7)) (.int .i64 0) (.string ⟨#[]⟩) (.slice none 0 0) (.slice none 0 0) (.slice none 0 0) ∧ Step [] id id w w' := by
 rcases hK with rfl | rfl
 ·go_enter Tryz.func7, Tryz.ntmps7
  go_wp2_with fail
  go_ret
  exact ⟨rfl, heap_alloc_new w _, Step.alloc _⟩
 ·go_enter Tryz.func7, Tryz.ntmps7
  go_wp2_with fail
  go_ret
  exact ⟨rfl, heap_alloc_new w _, Step.alloc _⟩
set_option maxRecDepth 100000 in
set_option maxHeartbeats 2000000 in
theorem newr_sum (w : World) : Calls Tryz.prog 7 #[.int .i64 1] w fun e w' => e = .returned (.pointer (some ⟨w.heap.size, 0, none⟩)) ∧ StR w' w.heap.size (1) 0 (.int .i64 (3)) (.int .i64 0) (.string ⟨#[]⟩) (.slice none 0 0) (.slice none 0 0) (.slice none 0 0) ∧ Step [] id id w w' := by
 go_enter Tryz.func7, Tryz.ntmps7
 go_wp2_with fail
 refine (ref_of 0 _).mono ?_
 rintro e w2 ⟨rfl, hs2⟩
 rw [show kindI 0 = 3 from rfl]
 have hS := hs2.at (heap_alloc_new w (.cells #[.int .i64 1, .int .i64 0, .int .i64 0, .int .i64 0, (.string ⟨#[]⟩), (.slice none 0 0), (.slice none 0 0), (.slice none 0 0)] 50)) (by simp)
 have f0 := free_blk hS
 have c2 := cell_blk hS (i := 2) rfl
 have c3 := cell_blk hS (i := 3) rfl
 have c4 := cell_blk hS (i := 4) rfl
 have c5 := cell_blk hS (i := 5) rfl
 have c6 := cell_blk hS (i := 6) rfl
 have c7 := cell_blk hS (i := 7) rfl
 have hl := lt_of_block hS
 have hSH := Lib.hid hS
 have hsH := Lib.hid ((Step.alloc (T := []) (g := id) (.cells #[.int .i64 1, .int .i64 0, .int .i64 0, .int .i64 0, (.string ⟨#[]⟩), (.slice none 0 0), (.slice none 0 0), (.slice none 0 0)] 50)).tail hs2)
 clear hS hs2
 go_wp2_with fail
 go_ret
 have h2 := set_blk hSH.out 2 (.int .i64 3)
 have h3 := set_blk h2 3 (.int .i64 0)
 have h4 := set_blk h3 4 (.string ⟨#[]⟩)
 have h5 := set_blk h4 5 (.slice none 0 0)
 have h6 := set_blk h5 6 (.slice none 0 0)
 have h7 := set_blk h6 7 (.slice none 0 0)
 refine ⟨rfl, ?_, hsH.out.tailNew (T2 := [w.heap.size]) ((((((Step.set _ _ (by simp)).tail (Step.set _ _ (by simp))).tail (Step.set _ _ (by simp))).tail (Step.set _ _ (by simp))).tail (Step.set _ _ (by simp))).tail (Step.set _ _ (by simp))) (by simp)⟩
 unfold StR
 simpa using h7
end Go.Proofs.YtembpajlllnncaaGreatDoor
namespace Go.Proofs.YtembpajlllnncaaGreatDoor
open Go.RowKit

mutual
theorem cmpV_r : ∀ (y z : Val), -1 ≤ cmpV y z ∧ cmpV y z ≤ 1
 | .mk k n s b f l, y => by
  have h1 := cmpFs_r f y.f
  have h2 := cmpLs_r l y.l
  have h3 : ∀ a b : Int, -1 ≤ sgnI a b ∧ sgnI a b ≤ 1 := fun a b => by unfold sgnI; split <;> (try split) <;> omega
  have h4 := cmpB_r s y.s
  have h5 := cmpB_r b y.b
  have h6 : ∀ a b : Int, (-1 ≤ a ∧ a ≤ 1) → (-1 ≤ b ∧ b ≤ 1) → -1 ≤ orI a b ∧ orI a b ≤ 1 := fun a b ha hb => by unfold orI; split <;> assumption
  rw [cmpV]
  refine h6 _ _ (h3 _ _) ?_
  split
  ·exact h3 _ _
  split
  ·exact h4
  split
  ·exact h1
  split
  ·exact h2
  split
  ·exact h6 _ _ (h3 _ _) h5
  split
  ·exact h5
  ·omega
theorem cmpFs_r : ∀ (a b : List (Bs × Val)), -1 ≤ cmpFs a b ∧ cmpFs a b ≤ 1
 | [], [] => by rw [cmpFs]; omega
 | [], _ :: _ => by rw [cmpFs]; omega
 | _ :: _, [] => by rw [cmpFs]; omega
 | (nm, v) :: r, (nm2, v2) :: r2 => by
  have h1 := cmpV_r v v2
  have h2 := cmpFs_r r r2
  have h3 : ∀ a b : Int, -1 ≤ sgnI a b ∧ sgnI a b ≤ 1 := fun a b => by unfold sgnI; split <;> (try split) <;> omega
  have h4 := cmpB_r nm nm2
  have h6 : ∀ a b : Int, (-1 ≤ a ∧ a ≤ 1) → (-1 ≤ b ∧ b ≤ 1) → -1 ≤ orI a b ∧ orI a b ≤ 1 := fun a b ha hb => by unfold orI; split <;> assumption
  rw [cmpFs]
  exact h6 _ _ (h6 _ _ (h3 _ _) (h6 _ _ h4 h1)) h2
theorem cmpLs_r : ∀ (a b : List Val), -1 ≤ cmpLs a b ∧ cmpLs a b ≤ 1
 | [], [] => by rw [cmpLs]; omega
 | [], _ :: _ => by rw [cmpLs]; omega
 | _ :: _, [] => by rw [cmpLs]; omega
 | v :: r, v2 :: r2 => by
  have h1 := cmpV_r v v2
  have h2 := cmpLs_r r r2
  have h6 : ∀ a b : Int, (-1 ≤ a ∧ a ≤ 1) → (-1 ≤ b ∧ b ≤ 1) → -1 ≤ orI a b ∧ orI a b ≤ 1 := fun a b ha hb => by unfold orI; split <;> assumption
  rw [cmpLs]
  exact h6 _ _ h1 h2
theorem cmpB_r : ∀ (a b : Bs), -1 ≤ cmpB a b ∧ cmpB a b ≤ 1
 | [], [] => by rw [cmpB]; omega
 | [], _ :: _ => by rw [cmpB]; omega
 | _ :: _, [] => by rw [cmpB]; omega
 | a :: r, b :: s => by
  have h := cmpB_r r s
  rw [cmpB]
  split
  ·omega
  split
  ·omega
  ·exact h
end
/-- The reference's state took a value: the answer, its cells. -/
def RAdd (M : Nat) (K N er : Int) (v0 v1 v2 v3 v4 v5 : Value) (w : World) (e : Ending) (w' : World) : Prop := e = .returned (.int .i64 er) ∧ StR w' M K N v0 v1 v2 v3 v4 v5 ∧ Step [M] id id w w'
/-- All that it takes: its count. -/
theorem count_ends {w W : World} {M : Nat} {K N : Int} {v0 v1 v2 v3 v4 v5 : Value} (h : StR W M K N v0 v1 v2 v3 v4 v5) (hs : Step [] id id w W) : RAdd M K (N + 1) 0 v0 v1 v2 v3 v4 v5 w (.returned (.int .i64 0)) (W.setCell ⟨M, 1, none⟩ (.int .i64 (N + 1))) := by
 refine ⟨rfl, ?_, (hs.mono (fun _ h => by cases h)).tail (Step.set _ _ (by simp))⟩
 have h1 := set_blk h 1 (.int .i64 (N + 1))
 simpa [StR] using h1
/-- .. and a value. -/
theorem value_ends {w W : World} {M : Nat} {K N : Int} {v0 v1 v2 v3 v4 v5 u0 u1 u2 u3 u4 u5 : Value} (h : StR W M K N v0 v1 v2 v3 v4 v5) (hs : Step [] id id w W) :
  RAdd M K (N + 1) 0 u0 u1 u2 u3 u4 u5 w (.returned (.int .i64 0)) (((((((W.setCell ⟨M, 2, none⟩ u0).setCell ⟨M, 3, none⟩ u1).setCell ⟨M, 4, none⟩ u2).setCell ⟨M, 5, none⟩ u3).setCell ⟨M, 6, none⟩ u4).setCell ⟨M, 7, none⟩ u5).setCell ⟨M, 1, none⟩ (.int .i64 (N + 1))) := by
 refine ⟨rfl, ?_, (hs.mono (fun _ h => by cases h)).tail (((((((Step.set _ _ (by simp)).tail (Step.set _ _ (by simp))).tail (Step.set _ _ (by simp))).tail (Step.set _ _ (by simp))).tail (Step.set _ _ (by simp))).tail (Step.set _ _ (by simp))).tail (Step.set _ _ (by simp)))⟩
 have h2 := set_blk h 2 u0
 have h3 := set_blk h2 3 u1
 have h4 := set_blk h3 4 u2
 have h5 := set_blk h4 5 u3
 have h6 := set_blk h5 6 u4
 have h7 := set_blk h6 7 u5
 have h8 := set_blk h7 1 (.int .i64 (N + 1))
 simpa [StR] using h8
theorem RAdd.alloc {w W : World} {M : Nat} {K N er : Int} {v0 v1 v2 v3 v4 v5 : Value} {e : Ending} (h : RAdd M K N er v0 v1 v2 v3 v4 v5 w e W) (o : Obj) : RAdd M K N er v0 v1 v2 v3 v4 v5 w e (W.alloc o) :=
 ⟨h.1, (Step.alloc (T := []) (g := id) o).at h.2.1 (by simp), h.2.2.tail ((Step.alloc (T := []) (g := id) o).mono (fun _ h => by cases h))⟩
/-- What is better than what is kept is taken. -/
def RBest (M : Nat) (K N k k0 C m : Int) (took kept : Ending → World → Prop) (e : Ending) (w' : World) : Prop := if k = 0 ∨ k = 2 then kept e w' else if k0 = 0 ∨ C = m then took e w' else kept e w'
section
variable {w : World} {M : Nat} {N k n k0 n0 : Int} {s s0 : ByteArray} {ba fa la ba0 fa0 la0 : Option Addr} {bn bc fn fc ln lc bn0 bc0 fn0 fc0 ln0 lc0 : Nat}
set_option maxRecDepth 100000 in
set_option maxHeartbeats 4000000 in
theorem radd_count (h : StR w M 8 N (.int .i64 k0) (.int .i64 n0) (.string s0) (.slice ba0 bn0 bc0) (.slice fa0 fn0 fc0) (.slice la0 ln0 lc0)) (hN : 0 ≤ N ∧ N ≤ 1000000000) : Calls Tryz.prog 13 #[.pointer (some ⟨M, 0, none⟩), .agg #[.int .i64 k, .int .i64 n, .string s, .slice ba bn bc, .slice fa fn fc, .slice la ln lc]] w (RAdd M 8 (N + 1) 0 (.int .i64 k0) (.int .i64 n0) (.string s0) (.slice ba0 bn0 bc0) (.slice fa0 fn0 fc0) (.slice la0 ln0 lc0) w) := by
 obtain ⟨W1, hW1⟩ : ∃ W1, W1 = w.alloc (.cells #[.int .i64 k, .int .i64 n, .string s, .slice ba bn bc, .slice fa fn fc, .slice la ln lc] 35) := ⟨_, rfl⟩
 have hs1 : Step [] id id w W1 := by rw [hW1]; exact Step.alloc _
 have hB : W1.heap[w.heap.size]? = some (.cells #[.int .i64 k, .int .i64 n, .string s, .slice ba bn bc, .slice fa fn fc, .slice la ln lc] 35 (0, 0)) := by rw [hW1]; exact heap_alloc_new w _
 have hM : StR W1 M 8 N (.int .i64 k0) (.int .i64 n0) (.string s0) (.slice ba0 bn0 bc0) (.slice fa0 fn0 fc0) (.slice la0 ln0 lc0) := hs1.at h (by simp)
 have hMw := lt_of_block h
 have hMB : ¬ M = w.heap.size := by omega
 have hBM : ¬ w.heap.size = M := by omega
 have c0 := cell_blk h (i := 0) rfl
 have c1 := cell_blk h (i := 1) rfl
 have c2 := cell_blk h (i := 2) rfl
 have c3 := cell_blk h (i := 3) rfl
 have c4 := cell_blk h (i := 4) rfl
 have c5 := cell_blk h (i := 5) rfl
 have c6 := cell_blk h (i := 6) rfl
 have c7 := cell_blk h (i := 7) rfl
 have fM := free_blk h
 have hwr : IntKind.i64.wrap (N + 1) = N + 1 := IntWalk.i64_in _ (by omega)
 have hMH := Lib.hid hM
 have hBH := Lib.hid hB
 have hW1H := Lib.hid hW1
 have hs1H := Lib.hid hs1
 have hwH := Lib.hid h
 clear hM hB hW1 hs1 h
 go_enter Tryz.func13, Tryz.ntmps13
 go_wp2_with fail
 go_ret
 exact (count_ends hwH.out (Step.refl _ _ _)).alloc _
set_option maxRecDepth 100000 in
set_option maxHeartbeats 4000000 in
theorem radd_last (h : StR w M 5 N (.int .i64 k0) (.int .i64 n0) (.string s0) (.slice ba0 bn0 bc0) (.slice fa0 fn0 fc0) (.slice la0 ln0 lc0)) (hN : 0 ≤ N ∧ N ≤ 1000000000) : Calls Tryz.prog 13 #[.pointer (some ⟨M, 0, none⟩), .agg #[.int .i64 k, .int .i64 n, .string s, .slice ba bn bc, .slice fa fn fc, .slice la ln lc]] w (RAdd M 5 (N + 1) 0 (.int .i64 k) (.int .i64 n) (.string s) (.slice ba bn bc) (.slice fa fn fc) (.slice la ln lc) w) := by
 obtain ⟨W1, hW1⟩ : ∃ W1, W1 = w.alloc (.cells #[.int .i64 k, .int .i64 n, .string s, .slice ba bn bc, .slice fa fn fc, .slice la ln lc] 35) := ⟨_, rfl⟩
 have hs1 : Step [] id id w W1 := by rw [hW1]; exact Step.alloc _
 have hB : W1.heap[w.heap.size]? = some (.cells #[.int .i64 k, .int .i64 n, .string s, .slice ba bn bc, .slice fa fn fc, .slice la ln lc] 35 (0, 0)) := by rw [hW1]; exact heap_alloc_new w _
 have hM : StR W1 M 5 N (.int .i64 k0) (.int .i64 n0) (.string s0) (.slice ba0 bn0 bc0) (.slice fa0 fn0 fc0) (.slice la0 ln0 lc0) := hs1.at h (by simp)
 have hMw := lt_of_block h
 have hMB : ¬ M = w.heap.size := by omega
 have hBM : ¬ w.heap.size = M := by omega
 have c0 := cell_blk h (i := 0) rfl
 have c1 := cell_blk h (i := 1) rfl
 have c2 := cell_blk h (i := 2) rfl
 have c3 := cell_blk h (i := 3) rfl
 have c4 := cell_blk h (i := 4) rfl
 have c5 := cell_blk h (i := 5) rfl
 have c6 := cell_blk h (i := 6) rfl
 have c7 := cell_blk h (i := 7) rfl
 have fM := free_blk h
 have hwr : IntKind.i64.wrap (N + 1) = N + 1 := IntWalk.i64_in _ (by omega)
 have hMH := Lib.hid hM
 have hBH := Lib.hid hB
 have hW1H := Lib.hid hW1
 have hs1H := Lib.hid hs1
 have hwH := Lib.hid h
 clear hM hB hW1 hs1 h
 go_enter Tryz.func13, Tryz.ntmps13
 go_wp2_with fail
 go_ret
 exact (value_ends hwH.out (Step.refl _ _ _)).alloc _
set_option maxRecDepth 100000 in
set_option maxHeartbeats 4000000 in
theorem radd_first (h : StR w M 4 N (.int .i64 k0) (.int .i64 n0) (.string s0) (.slice ba0 bn0 bc0) (.slice fa0 fn0 fc0) (.slice la0 ln0 lc0)) (hN : 0 ≤ N ∧ N ≤ 1000000000) (h0 : N = 0) : Calls Tryz.prog 13 #[.pointer (some ⟨M, 0, none⟩), .agg #[.int .i64 k, .int .i64 n, .string s, .slice ba bn bc, .slice fa fn fc, .slice la ln lc]] w (RAdd M 4 (N + 1) 0 (.int .i64 k) (.int .i64 n) (.string s) (.slice ba bn bc) (.slice fa fn fc) (.slice la ln lc) w) := by
 have hb : (N == 0) = true := by rw [beq_iff_eq]; exact h0
 clear h0
 obtain ⟨W1, hW1⟩ : ∃ W1, W1 = w.alloc (.cells #[.int .i64 k, .int .i64 n, .string s, .slice ba bn bc, .slice fa fn fc, .slice la ln lc] 35) := ⟨_, rfl⟩
 have hs1 : Step [] id id w W1 := by rw [hW1]; exact Step.alloc _
 have hB : W1.heap[w.heap.size]? = some (.cells #[.int .i64 k, .int .i64 n, .string s, .slice ba bn bc, .slice fa fn fc, .slice la ln lc] 35 (0, 0)) := by rw [hW1]; exact heap_alloc_new w _
 have hM : StR W1 M 4 N (.int .i64 k0) (.int .i64 n0) (.string s0) (.slice ba0 bn0 bc0) (.slice fa0 fn0 fc0) (.slice la0 ln0 lc0) := hs1.at h (by simp)
 have hMw := lt_of_block h
 have hMB : ¬ M = w.heap.size := by omega
 have hBM : ¬ w.heap.size = M := by omega
 have c0 := cell_blk h (i := 0) rfl
 have c1 := cell_blk h (i := 1) rfl
 have c2 := cell_blk h (i := 2) rfl
 have c3 := cell_blk h (i := 3) rfl
 have c4 := cell_blk h (i := 4) rfl
 have c5 := cell_blk h (i := 5) rfl
 have c6 := cell_blk h (i := 6) rfl
 have c7 := cell_blk h (i := 7) rfl
 have fM := free_blk h
 have hwr : IntKind.i64.wrap (N + 1) = N + 1 := IntWalk.i64_in _ (by omega)
 have hMH := Lib.hid hM
 have hBH := Lib.hid hB
 have hW1H := Lib.hid hW1
 have hs1H := Lib.hid hs1
 have hwH := Lib.hid h
 clear hM hB hW1 hs1 h
 go_enter Tryz.func13, Tryz.ntmps13
 go_wp2_with fail
 go_ret
 exact (value_ends hwH.out (Step.refl _ _ _)).alloc _
set_option maxRecDepth 100000 in
set_option maxHeartbeats 4000000 in
theorem radd_later (h : StR w M 4 N (.int .i64 k0) (.int .i64 n0) (.string s0) (.slice ba0 bn0 bc0) (.slice fa0 fn0 fc0) (.slice la0 ln0 lc0)) (hN : 0 ≤ N ∧ N ≤ 1000000000) (h0 : N ≠ 0) : Calls Tryz.prog 13 #[.pointer (some ⟨M, 0, none⟩), .agg #[.int .i64 k, .int .i64 n, .string s, .slice ba bn bc, .slice fa fn fc, .slice la ln lc]] w (RAdd M 4 (N + 1) 0 (.int .i64 k0) (.int .i64 n0) (.string s0) (.slice ba0 bn0 bc0) (.slice fa0 fn0 fc0) (.slice la0 ln0 lc0) w) := by
 have hb : (N == 0) = false := by rw [beq_eq_false_iff_ne]; exact h0
 clear h0
 obtain ⟨W1, hW1⟩ : ∃ W1, W1 = w.alloc (.cells #[.int .i64 k, .int .i64 n, .string s, .slice ba bn bc, .slice fa fn fc, .slice la ln lc] 35) := ⟨_, rfl⟩
 have hs1 : Step [] id id w W1 := by rw [hW1]; exact Step.alloc _
 have hB : W1.heap[w.heap.size]? = some (.cells #[.int .i64 k, .int .i64 n, .string s, .slice ba bn bc, .slice fa fn fc, .slice la ln lc] 35 (0, 0)) := by rw [hW1]; exact heap_alloc_new w _
 have hM : StR W1 M 4 N (.int .i64 k0) (.int .i64 n0) (.string s0) (.slice ba0 bn0 bc0) (.slice fa0 fn0 fc0) (.slice la0 ln0 lc0) := hs1.at h (by simp)
 have hMw := lt_of_block h
 have hMB : ¬ M = w.heap.size := by omega
 have hBM : ¬ w.heap.size = M := by omega
 have c0 := cell_blk h (i := 0) rfl
 have c1 := cell_blk h (i := 1) rfl
 have c2 := cell_blk h (i := 2) rfl
 have c3 := cell_blk h (i := 3) rfl
 have c4 := cell_blk h (i := 4) rfl
 have c5 := cell_blk h (i := 5) rfl
 have c6 := cell_blk h (i := 6) rfl
 have c7 := cell_blk h (i := 7) rfl
 have fM := free_blk h
 have hwr : IntKind.i64.wrap (N + 1) = N + 1 := IntWalk.i64_in _ (by omega)
 have hMH := Lib.hid hM
 have hBH := Lib.hid hB
 have hW1H := Lib.hid hW1
 have hs1H := Lib.hid hs1
 have hwH := Lib.hid h
 clear hM hB hW1 hs1 h
 go_enter Tryz.func13, Tryz.ntmps13
 go_wp2_with fail
 go_ret
 exact (count_ends hwH.out (Step.refl _ _ _)).alloc _
set_option maxRecDepth 100000 in
set_option maxHeartbeats 4000000 in
/-- A sum: what is no number. -/
theorem radd_nonum (h : StR w M 1 N (.int .i64 k0) (.int .i64 n0) (.string s0) (.slice ba0 bn0 bc0) (.slice fa0 fn0 fc0) (.slice la0 ln0 lc0)) (hN : 0 ≤ N ∧ N ≤ 1000000000) (hk : ¬ (k = 3 ∨ k = 4)) : Calls Tryz.prog 13 #[.pointer (some ⟨M, 0, none⟩), .agg #[.int .i64 k, .int .i64 n, .string s, .slice ba bn bc, .slice fa fn fc, .slice la ln lc]] w (RAdd M 1 (N + 1) 0 (.int .i64 k0) (.int .i64 n0) (.string s0) (.slice ba0 bn0 bc0) (.slice fa0 fn0 fc0) (.slice la0 ln0 lc0) w) := by
 have hb3 : (k == 3) = false := by rw [beq_eq_false_iff_ne]; omega
 have hb4 : (k == 4) = false := by rw [beq_eq_false_iff_ne]; omega
 clear hk
 obtain ⟨W1, hW1⟩ : ∃ W1, W1 = w.alloc (.cells #[.int .i64 k, .int .i64 n, .string s, .slice ba bn bc, .slice fa fn fc, .slice la ln lc] 35) := ⟨_, rfl⟩
 have hs1 : Step [] id id w W1 := by rw [hW1]; exact Step.alloc _
 have hB : W1.heap[w.heap.size]? = some (.cells #[.int .i64 k, .int .i64 n, .string s, .slice ba bn bc, .slice fa fn fc, .slice la ln lc] 35 (0, 0)) := by rw [hW1]; exact heap_alloc_new w _
 have hM : StR W1 M 1 N (.int .i64 k0) (.int .i64 n0) (.string s0) (.slice ba0 bn0 bc0) (.slice fa0 fn0 fc0) (.slice la0 ln0 lc0) := hs1.at h (by simp)
 have hMw := lt_of_block h
 have hMB : ¬ M = w.heap.size := by omega
 have hBM : ¬ w.heap.size = M := by omega
 have c0 := cell_blk h (i := 0) rfl
 have c1 := cell_blk h (i := 1) rfl
 have c2 := cell_blk h (i := 2) rfl
 have c3 := cell_blk h (i := 3) rfl
 have c4 := cell_blk h (i := 4) rfl
 have c5 := cell_blk h (i := 5) rfl
 have c6 := cell_blk h (i := 6) rfl
 have c7 := cell_blk h (i := 7) rfl
 have fM := free_blk h
 have hwr : IntKind.i64.wrap (N + 1) = N + 1 := IntWalk.i64_in _ (by omega)
 have hMH := Lib.hid hM
 have hBH := Lib.hid hB
 have hW1H := Lib.hid hW1
 have hs1H := Lib.hid hs1
 have hwH := Lib.hid h
 clear hM hB hW1 hs1 h
 go_enter Tryz.func13, Tryz.ntmps13
 go_wp2_with fail
 go_ret
 exact (count_ends hwH.out (Step.refl _ _ _)).alloc _
set_option maxRecDepth 100000 in
set_option maxHeartbeats 8000000 in
theorem radd_least {P P' : Nat → Prop} {x y : Val} (h : StR w M 2 N (.int .i64 k0) (.int .i64 n0) (.string s0) (.slice ba0 bn0 bc0) (.slice fa0 fn0 fc0) (.slice la0 ln0 lc0)) (hN : 0 ≤ N ∧ N ≤ 1000000000) (hx : VIs P w x [.int .i64 k, .int .i64 n, .string s, .slice ba bn bc, .slice fa fn fc, .slice la ln lc]) (hy : VIs P' w y [.int .i64 k0, .int .i64 n0, .string s0, .slice ba0 bn0 bc0, .slice fa0 fn0 fc0, .slice la0 ln0 lc0]) : Calls Tryz.prog 13 #[.pointer (some ⟨M, 0, none⟩), .agg #[.int .i64 k, .int .i64 n, .string s, .slice ba bn bc, .slice fa fn fc, .slice la ln lc]] w (RBest M 2 N x.kind y.kind (cmpV x y) (-1) (RAdd M 2 (N + 1) 0 (.int .i64 k) (.int .i64 n) (.string s) (.slice ba bn bc) (.slice fa fn fc) (.slice la ln lc) w) (RAdd M 2 (N + 1) 0 (.int .i64 k0) (.int .i64 n0) (.string s0) (.slice ba0 bn0 bc0) (.slice fa0 fn0 fc0) (.slice la0 ln0 lc0) w)) := by
 have hcm := Lib.hid (fun (W : World) (hW : Step [] id id w W) => ref_compare x y (fun _ => True) (fun _ => True) W _ _ (hx.keep (P2 := fun _ => True) (w' := W) (fun _ _ => trivial) (fun k hP hk => (hW.keep k hk (by simp)).2)) (hy.keep (P2 := fun _ => True) (w' := W) (fun _ _ => trivial) (fun k hP hk => (hW.keep k hk (by simp)).2)))
 have hkx := hx.six
 obtain ⟨_, _, _, _, _, _, _, _, _, _, hkx, -⟩ := hkx
 have hky := hy.six
 obtain ⟨_, _, _, _, _, _, _, _, _, _, hky, -⟩ := hky
 have hkx2 : k = x.kind := by injection hkx with h _; injection h
 have hky2 : k0 = y.kind := by injection hky with h _; injection h
 have hrg := cmpV_r x y
 rw [← hkx2, ← hky2]
 obtain ⟨C, hC⟩ : ∃ C, C = cmpV x y := ⟨_, rfl⟩
 rw [← hC] at hcm hrg ⊢
 obtain ⟨r, hr⟩ : ∃ r, r = decide (k = 0 ∨ k = 2) := ⟨_, rfl⟩
 have hnone := Lib.hid (fun W => ref_none10 (k := k) (n := .int .i64 n) (s := .string s) (b := .slice ba bn bc) (f := .slice fa fn fc) (l := .slice la ln lc) W)
 rw [← hr] at hnone
 clear hx hy hkx hky hkx2 hky2 hC
 obtain ⟨W1, hW1⟩ : ∃ W1, W1 = w.alloc (.cells #[.int .i64 k, .int .i64 n, .string s, .slice ba bn bc, .slice fa fn fc, .slice la ln lc] 35) := ⟨_, rfl⟩
 have hs1 : Step [] id id w W1 := by rw [hW1]; exact Step.alloc _
 have hB : W1.heap[w.heap.size]? = some (.cells #[.int .i64 k, .int .i64 n, .string s, .slice ba bn bc, .slice fa fn fc, .slice la ln lc] 35 (0, 0)) := by rw [hW1]; exact heap_alloc_new w _
 have hM : StR W1 M 2 N (.int .i64 k0) (.int .i64 n0) (.string s0) (.slice ba0 bn0 bc0) (.slice fa0 fn0 fc0) (.slice la0 ln0 lc0) := hs1.at h (by simp)
 have hMw := lt_of_block h
 have hMB : ¬ M = w.heap.size := by omega
 have hBM : ¬ w.heap.size = M := by omega
 have c0 := cell_blk h (i := 0) rfl
 have c1 := cell_blk h (i := 1) rfl
 have c2 := cell_blk h (i := 2) rfl
 have c3 := cell_blk h (i := 3) rfl
 have c4 := cell_blk h (i := 4) rfl
 have c5 := cell_blk h (i := 5) rfl
 have c6 := cell_blk h (i := 6) rfl
 have c7 := cell_blk h (i := 7) rfl
 have fM := free_blk h
 have hwr : IntKind.i64.wrap (N + 1) = N + 1 := IntWalk.i64_in _ (by omega)
 have hMH := Lib.hid hM
 have hBH := Lib.hid hB
 have hW1H := Lib.hid hW1
 have hs1H := Lib.hid hs1
 have hwH := Lib.hid h
 clear hM hB hW1 hs1 h
 go_enter Tryz.func13, Tryz.ntmps13
 go_wp2_with fail
 rw [← hW1H.out]
 refine (hnone.out _).mono ?_
 rintro e w2 ⟨rfl, hs2⟩
 have hrH := Lib.hid hr
 clear hr
 cases r
 rotate_left
 ·have hyes := Lib.hid (of_decide_eq_true hrH.out.symm)
  have hM2 := hs2.at hMH.out (by simp)
  have c1' := cell_blk hM2 (i := 1) rfl
  have hlM2 := lt_of_block hM2
  have fM2 := free_blk hM2
  have hM2H := Lib.hid hM2
  have hs2H := Lib.hid (hs1H.out.tail hs2)
  clear hs2 hM2
  go_wp2_with fail
  go_ret
  unfold RBest
  rw [if_pos hyes.out]
  exact count_ends hM2H.out hs2H.out
 have hno := Lib.hid (of_decide_eq_false hrH.out.symm)
 have hM2 := hs2.at hMH.out (by simp)
 have hB2 := hs2.at hBH.out (by simp)
 clear c0 c1 c2 c3 c4 c5 c6 c7 fM
 have c2 := cell_blk hM2 (i := 2) rfl
 have c3 := cell_blk hM2 (i := 3) rfl
 have c4 := cell_blk hM2 (i := 4) rfl
 have c5 := cell_blk hM2 (i := 5) rfl
 have c6 := cell_blk hM2 (i := 6) rfl
 have c7 := cell_blk hM2 (i := 7) rfl
 have hlM := lt_of_block hM2
 have hlB := lt_of_block hB2
 obtain ⟨b0, b1, b2, b3, b4, b5⟩ := cells6A hB2
 have hs2H := Lib.hid hs2
 have hM2H := Lib.hid hM2
 have hB2H := Lib.hid hB2
 have hSH := Lib.hid (fun (W : World) (hs : Step [] id id w2 W) => And.intro (cell_blk (hs.at hM2 (by simp)) (i := 2) rfl) (And.intro (cell_blk (hs.at hM2 (by simp)) (i := 3) rfl) (And.intro (cell_blk (hs.at hM2 (by simp)) (i := 4) rfl) (And.intro (cell_blk (hs.at hM2 (by simp)) (i := 5) rfl) (And.intro (cell_blk (hs.at hM2 (by simp)) (i := 6) rfl) (And.intro (cell_blk (hs.at hM2 (by simp)) (i := 7) rfl) (cells6A (hs.at hB2 (by simp)))))))))
 clear hs2 hM2 hB2
 go_wp2_with fail
 refine wp_region_held_drew (S := fun w' => w'.cell? ⟨M, 2, none⟩ = some (.int .i64 k0) ∧ w'.cell? ⟨M, 3, none⟩ = some (.int .i64 n0) ∧ w'.cell? ⟨M, 4, none⟩ = some (.string s0) ∧ w'.cell? ⟨M, 5, none⟩ = some (.slice ba0 bn0 bc0) ∧ w'.cell? ⟨M, 6, none⟩ = some (.slice fa0 fn0 fc0) ∧ w'.cell? ⟨M, 7, none⟩ = some (.slice la0 ln0 lc0) ∧ w'.cell? ⟨w.heap.size, 0, none⟩ = some (.int .i64 k) ∧ w'.cell? ⟨w.heap.size, 1, none⟩ = some (.int .i64 n) ∧ w'.cell? ⟨w.heap.size, 2, none⟩ = some (.string s) ∧ w'.cell? ⟨w.heap.size, 3, none⟩ = some (.slice ba bn bc) ∧ w'.cell? ⟨w.heap.size, 4, none⟩ = some (.slice fa fn fc) ∧ w'.cell? ⟨w.heap.size, 5, none⟩ = some (.slice la ln lc)) (by kernel_rfl) ⟨c2, c3, c4, c5, c6, c7, b0, b1, b2, b3, b4, b5⟩ (fun hHeld => ?_)
 refine tkH 0 ?_ rfl (by kernel_rfl) (fun _ _ _ h => h) ?_ hHeld ?_
 rotate_left
 ·intro w' hSw; (try dsimp only at hSw); go_simp
  all_goals (with_reducible rfl)
 simp only [zP, zO, zA, zB, zC, zD, zE, zF]
 refine tkH 1 ?_ rfl (by kernel_rfl) (fun _ _ _ h => h) ?_ hHeld ?_
 rotate_left
 ·intro w' hSw; (try dsimp only at hSw); go_simp
  all_goals (with_reducible rfl)
 simp only [zP, zO, zA, zB, zC, zD, zE, zF]
 refine tkH 2 ?_ rfl (by kernel_rfl) (fun _ _ _ h => h) ?_ hHeld ?_
 rotate_left
 ·intro w' hSw; (try dsimp only at hSw); go_simp
  all_goals (with_reducible rfl)
 simp only [zP, zO, zA, zB, zC, zD, zE, zF]
 refine tkH 3 ?_ rfl (by kernel_rfl) (fun _ _ _ h => h) ?_ hHeld ?_
 rotate_left
 ·intro w' hSw; (try dsimp only at hSw); go_simp
  all_goals (with_reducible rfl)
 simp only [zP, zO, zA, zB, zC, zD, zE, zF]
 refine tkH 4 ?_ rfl (by kernel_rfl) (fun _ _ _ h => h) ?_ hHeld ?_
 rotate_left
 ·intro w' hSw; (try dsimp only at hSw); go_simp
  all_goals (with_reducible rfl)
 simp only [zP, zO, zA, zB, zC, zD, zE, zF]
 refine wpAnyH_ready (rs := [5]) (by kernel_rfl) (by simp) ?_
 refine AllReadyH.cons (o := _) rfl (fun K hK => ?_) AllReadyH.nil
 go_simp
 refine (hcm.out _ ((hs1H.out.tail hs2H.out).tail Step.drew)).mono ?_
 rintro e w3 ⟨rfl, hs3⟩
 have hs23 : Step [] id id w2 w3 := Step.drew.tail hs3
 go_wp2_with fail
 refine hK.out _ _ ?_ (fun hHeld => ?_)
 ·exact hSH.out _ hs23
 clear hK K
 refine tkH 6 ?_ rfl (by kernel_rfl) (fun _ _ _ h => h) ?_ hHeld ?_
 rotate_left
 ·intro w' hSw; (try dsimp only at hSw); go_simp
  all_goals (with_reducible rfl)
 simp only [zP, zO, zA, zB, zC, zD, zE, zF]
 refine wpAnyH_done (by kernel_rfl) ?_ _
 clear c2 c3 c4 c5 c6 c7 b0 b1 b2 b3 b4 b5 hlM hlB hHeld
 have hM3 := hs23.at hM2H.out (by simp)
 have hB3 := hs23.at hB2H.out (by simp)
 have c0 := cell_blk hM3 (i := 0) rfl
 have c1 := cell_blk hM3 (i := 1) rfl
 have c2 := cell_blk hM3 (i := 2) rfl
 have c3 := cell_blk hM3 (i := 3) rfl
 have c4 := cell_blk hM3 (i := 4) rfl
 have c5 := cell_blk hM3 (i := 5) rfl
 have c6 := cell_blk hM3 (i := 6) rfl
 have c7 := cell_blk hM3 (i := 7) rfl
 have hlM := lt_of_block hM3
 have hlB := lt_of_block hB3
 have fM := free_blk hM3
 obtain ⟨b0, b1, b2, b3, b4, b5⟩ := cells6A hB3
 have hM3H := Lib.hid hM3
 have hs3H := Lib.hid ((hs1H.out.tail hs2H.out).tail hs23)
 clear hs3 hs23 hM3 hB3
 by_cases hk0 : k0 = 0
 ·have hkb : (k0 == 0) = true := by rw [beq_iff_eq]; exact hk0
  have hk0H := Lib.hid hk0
  clear hk0
  go_wp2_with fail
  go_ret
  unfold RBest
  rw [if_neg hno.out, if_pos (.inl hk0H.out)]
  exact value_ends hM3H.out hs3H.out
 have hkb : (k0 == 0) = false := by rw [beq_eq_false_iff_ne]; exact hk0
 have hk0H := Lib.hid hk0
 clear hk0
 by_cases hc : C = -1
 ·have hd : decide (C < 0) = true := decide_eq_true (by omega)
  have hcH := Lib.hid hc
  clear hc
  go_wp2_with fail
  go_ret
  unfold RBest
  rw [if_neg hno.out, if_pos (.inr hcH.out)]
  exact value_ends hM3H.out hs3H.out
 ·have hd : decide (C < 0) = false := decide_eq_false (by omega)
  have hcH := Lib.hid hc
  clear hc
  go_wp2_with fail
  go_ret
  unfold RBest
  rw [if_neg hno.out, if_neg (by rintro (h | h); exact hk0H.out h; exact hcH.out h)]
  exact count_ends hM3H.out hs3H.out
set_option maxRecDepth 100000 in
set_option maxHeartbeats 8000000 in
theorem radd_most {P P' : Nat → Prop} {x y : Val} (h : StR w M 3 N (.int .i64 k0) (.int .i64 n0) (.string s0) (.slice ba0 bn0 bc0) (.slice fa0 fn0 fc0) (.slice la0 ln0 lc0)) (hN : 0 ≤ N ∧ N ≤ 1000000000) (hx : VIs P w x [.int .i64 k, .int .i64 n, .string s, .slice ba bn bc, .slice fa fn fc, .slice la ln lc]) (hy : VIs P' w y [.int .i64 k0, .int .i64 n0, .string s0, .slice ba0 bn0 bc0, .slice fa0 fn0 fc0, .slice la0 ln0 lc0]) : Calls Tryz.prog 13 #[.pointer (some ⟨M, 0, none⟩), .agg #[.int .i64 k, .int .i64 n, .string s, .slice ba bn bc, .slice fa fn fc, .slice la ln lc]] w (RBest M 3 N x.kind y.kind (cmpV x y) (1) (RAdd M 3 (N + 1) 0 (.int .i64 k) (.int .i64 n) (.string s) (.slice ba bn bc) (.slice fa fn fc) (.slice la ln lc) w) (RAdd M 3 (N + 1) 0 (.int .i64 k0) (.int .i64 n0) (.string s0) (.slice ba0 bn0 bc0) (.slice fa0 fn0 fc0) (.slice la0 ln0 lc0) w)) := by
 have hcm := Lib.hid (fun (W : World) (hW : Step [] id id w W) => ref_compare x y (fun _ => True) (fun _ => True) W _ _ (hx.keep (P2 := fun _ => True) (w' := W) (fun _ _ => trivial) (fun k hP hk => (hW.keep k hk (by simp)).2)) (hy.keep (P2 := fun _ => True) (w' := W) (fun _ _ => trivial) (fun k hP hk => (hW.keep k hk (by simp)).2)))
 have hkx := hx.six
 obtain ⟨_, _, _, _, _, _, _, _, _, _, hkx, -⟩ := hkx
 have hky := hy.six
 obtain ⟨_, _, _, _, _, _, _, _, _, _, hky, -⟩ := hky
 have hkx2 : k = x.kind := by injection hkx with h _; injection h
 have hky2 : k0 = y.kind := by injection hky with h _; injection h
 have hrg := cmpV_r x y
 rw [← hkx2, ← hky2]
 obtain ⟨C, hC⟩ : ∃ C, C = cmpV x y := ⟨_, rfl⟩
 rw [← hC] at hcm hrg ⊢
 obtain ⟨r, hr⟩ : ∃ r, r = decide (k = 0 ∨ k = 2) := ⟨_, rfl⟩
 have hnone := Lib.hid (fun W => ref_none10 (k := k) (n := .int .i64 n) (s := .string s) (b := .slice ba bn bc) (f := .slice fa fn fc) (l := .slice la ln lc) W)
 rw [← hr] at hnone
 clear hx hy hkx hky hkx2 hky2 hC
 obtain ⟨W1, hW1⟩ : ∃ W1, W1 = w.alloc (.cells #[.int .i64 k, .int .i64 n, .string s, .slice ba bn bc, .slice fa fn fc, .slice la ln lc] 35) := ⟨_, rfl⟩
 have hs1 : Step [] id id w W1 := by rw [hW1]; exact Step.alloc _
 have hB : W1.heap[w.heap.size]? = some (.cells #[.int .i64 k, .int .i64 n, .string s, .slice ba bn bc, .slice fa fn fc, .slice la ln lc] 35 (0, 0)) := by rw [hW1]; exact heap_alloc_new w _
 have hM : StR W1 M 3 N (.int .i64 k0) (.int .i64 n0) (.string s0) (.slice ba0 bn0 bc0) (.slice fa0 fn0 fc0) (.slice la0 ln0 lc0) := hs1.at h (by simp)
 have hMw := lt_of_block h
 have hMB : ¬ M = w.heap.size := by omega
 have hBM : ¬ w.heap.size = M := by omega
 have c0 := cell_blk h (i := 0) rfl
 have c1 := cell_blk h (i := 1) rfl
 have c2 := cell_blk h (i := 2) rfl
 have c3 := cell_blk h (i := 3) rfl
 have c4 := cell_blk h (i := 4) rfl
 have c5 := cell_blk h (i := 5) rfl
 have c6 := cell_blk h (i := 6) rfl
 have c7 := cell_blk h (i := 7) rfl
 have fM := free_blk h
 have hwr : IntKind.i64.wrap (N + 1) = N + 1 := IntWalk.i64_in _ (by omega)
 have hMH := Lib.hid hM
 have hBH := Lib.hid hB
 have hW1H := Lib.hid hW1
 have hs1H := Lib.hid hs1
 have hwH := Lib.hid h
 clear hM hB hW1 hs1 h
 go_enter Tryz.func13, Tryz.ntmps13
 go_wp2_with fail
 rw [← hW1H.out]
 refine (hnone.out _).mono ?_
 rintro e w2 ⟨rfl, hs2⟩
 have hrH := Lib.hid hr
 clear hr
 cases r
 rotate_left
 ·have hyes := Lib.hid (of_decide_eq_true hrH.out.symm)
  have hM2 := hs2.at hMH.out (by simp)
  have c1' := cell_blk hM2 (i := 1) rfl
  have hlM2 := lt_of_block hM2
  have fM2 := free_blk hM2
  have hM2H := Lib.hid hM2
  have hs2H := Lib.hid (hs1H.out.tail hs2)
  clear hs2 hM2
  go_wp2_with fail
  go_ret
  unfold RBest
  rw [if_pos hyes.out]
  exact count_ends hM2H.out hs2H.out
 have hno := Lib.hid (of_decide_eq_false hrH.out.symm)
 have hM2 := hs2.at hMH.out (by simp)
 have hB2 := hs2.at hBH.out (by simp)
 clear c0 c1 c2 c3 c4 c5 c6 c7 fM
 have c2 := cell_blk hM2 (i := 2) rfl
 have c3 := cell_blk hM2 (i := 3) rfl
 have c4 := cell_blk hM2 (i := 4) rfl
 have c5 := cell_blk hM2 (i := 5) rfl
 have c6 := cell_blk hM2 (i := 6) rfl
 have c7 := cell_blk hM2 (i := 7) rfl
 have hlM := lt_of_block hM2
 have hlB := lt_of_block hB2
 obtain ⟨b0, b1, b2, b3, b4, b5⟩ := cells6A hB2
 have hs2H := Lib.hid hs2
 have hM2H := Lib.hid hM2
 have hB2H := Lib.hid hB2
 have hSH := Lib.hid (fun (W : World) (hs : Step [] id id w2 W) => And.intro (cell_blk (hs.at hM2 (by simp)) (i := 2) rfl) (And.intro (cell_blk (hs.at hM2 (by simp)) (i := 3) rfl) (And.intro (cell_blk (hs.at hM2 (by simp)) (i := 4) rfl) (And.intro (cell_blk (hs.at hM2 (by simp)) (i := 5) rfl) (And.intro (cell_blk (hs.at hM2 (by simp)) (i := 6) rfl) (And.intro (cell_blk (hs.at hM2 (by simp)) (i := 7) rfl) (cells6A (hs.at hB2 (by simp)))))))))
 clear hs2 hM2 hB2
 go_wp2_with fail
 refine wp_region_held_drew (S := fun w' => w'.cell? ⟨M, 2, none⟩ = some (.int .i64 k0) ∧ w'.cell? ⟨M, 3, none⟩ = some (.int .i64 n0) ∧ w'.cell? ⟨M, 4, none⟩ = some (.string s0) ∧ w'.cell? ⟨M, 5, none⟩ = some (.slice ba0 bn0 bc0) ∧ w'.cell? ⟨M, 6, none⟩ = some (.slice fa0 fn0 fc0) ∧ w'.cell? ⟨M, 7, none⟩ = some (.slice la0 ln0 lc0) ∧ w'.cell? ⟨w.heap.size, 0, none⟩ = some (.int .i64 k) ∧ w'.cell? ⟨w.heap.size, 1, none⟩ = some (.int .i64 n) ∧ w'.cell? ⟨w.heap.size, 2, none⟩ = some (.string s) ∧ w'.cell? ⟨w.heap.size, 3, none⟩ = some (.slice ba bn bc) ∧ w'.cell? ⟨w.heap.size, 4, none⟩ = some (.slice fa fn fc) ∧ w'.cell? ⟨w.heap.size, 5, none⟩ = some (.slice la ln lc)) (by kernel_rfl) ⟨c2, c3, c4, c5, c6, c7, b0, b1, b2, b3, b4, b5⟩ (fun hHeld => ?_)
 refine tkH 0 ?_ rfl (by kernel_rfl) (fun _ _ _ h => h) ?_ hHeld ?_
 rotate_left
 ·intro w' hSw; (try dsimp only at hSw); go_simp
  all_goals (with_reducible rfl)
 simp only [zP, zO, zA, zB, zC, zD, zE, zF]
 refine tkH 1 ?_ rfl (by kernel_rfl) (fun _ _ _ h => h) ?_ hHeld ?_
 rotate_left
 ·intro w' hSw; (try dsimp only at hSw); go_simp
  all_goals (with_reducible rfl)
 simp only [zP, zO, zA, zB, zC, zD, zE, zF]
 refine tkH 2 ?_ rfl (by kernel_rfl) (fun _ _ _ h => h) ?_ hHeld ?_
 rotate_left
 ·intro w' hSw; (try dsimp only at hSw); go_simp
  all_goals (with_reducible rfl)
 simp only [zP, zO, zA, zB, zC, zD, zE, zF]
 refine tkH 3 ?_ rfl (by kernel_rfl) (fun _ _ _ h => h) ?_ hHeld ?_
 rotate_left
 ·intro w' hSw; (try dsimp only at hSw); go_simp
  all_goals (with_reducible rfl)
 simp only [zP, zO, zA, zB, zC, zD, zE, zF]
 refine tkH 4 ?_ rfl (by kernel_rfl) (fun _ _ _ h => h) ?_ hHeld ?_
 rotate_left
 ·intro w' hSw; (try dsimp only at hSw); go_simp
  all_goals (with_reducible rfl)
 simp only [zP, zO, zA, zB, zC, zD, zE, zF]
 refine wpAnyH_ready (rs := [5]) (by kernel_rfl) (by simp) ?_
 refine AllReadyH.cons (o := _) rfl (fun K hK => ?_) AllReadyH.nil
 go_simp
 refine (hcm.out _ ((hs1H.out.tail hs2H.out).tail Step.drew)).mono ?_
 rintro e w3 ⟨rfl, hs3⟩
 have hs23 : Step [] id id w2 w3 := Step.drew.tail hs3
 go_wp2_with fail
 refine hK.out _ _ ?_ (fun hHeld => ?_)
 ·exact hSH.out _ hs23
 clear hK K
 refine tkH 6 ?_ rfl (by kernel_rfl) (fun _ _ _ h => h) ?_ hHeld ?_
 rotate_left
 ·intro w' hSw; (try dsimp only at hSw); go_simp
  all_goals (with_reducible rfl)
 simp only [zP, zO, zA, zB, zC, zD, zE, zF]
 refine wpAnyH_done (by kernel_rfl) ?_ _
 clear c2 c3 c4 c5 c6 c7 b0 b1 b2 b3 b4 b5 hlM hlB hHeld
 have hM3 := hs23.at hM2H.out (by simp)
 have hB3 := hs23.at hB2H.out (by simp)
 have c0 := cell_blk hM3 (i := 0) rfl
 have c1 := cell_blk hM3 (i := 1) rfl
 have c2 := cell_blk hM3 (i := 2) rfl
 have c3 := cell_blk hM3 (i := 3) rfl
 have c4 := cell_blk hM3 (i := 4) rfl
 have c5 := cell_blk hM3 (i := 5) rfl
 have c6 := cell_blk hM3 (i := 6) rfl
 have c7 := cell_blk hM3 (i := 7) rfl
 have hlM := lt_of_block hM3
 have hlB := lt_of_block hB3
 have fM := free_blk hM3
 obtain ⟨b0, b1, b2, b3, b4, b5⟩ := cells6A hB3
 have hM3H := Lib.hid hM3
 have hs3H := Lib.hid ((hs1H.out.tail hs2H.out).tail hs23)
 clear hs3 hs23 hM3 hB3
 by_cases hk0 : k0 = 0
 ·have hkb : (k0 == 0) = true := by rw [beq_iff_eq]; exact hk0
  have hk0H := Lib.hid hk0
  clear hk0
  go_wp2_with fail
  go_ret
  unfold RBest
  rw [if_neg hno.out, if_pos (.inl hk0H.out)]
  exact value_ends hM3H.out hs3H.out
 have hkb : (k0 == 0) = false := by rw [beq_eq_false_iff_ne]; exact hk0
 have hk0H := Lib.hid hk0
 clear hk0
 by_cases hc : C = 1
 ·have hd : decide (0 < C) = true := decide_eq_true (by omega)
  have hcH := Lib.hid hc
  clear hc
  go_wp2_with fail
  go_ret
  unfold RBest
  rw [if_neg hno.out, if_pos (.inr hcH.out)]
  exact value_ends hM3H.out hs3H.out
 ·have hd : decide (0 < C) = false := decide_eq_false (by omega)
  have hcH := Lib.hid hc
  clear hc
  go_wp2_with fail
  go_ret
  unfold RBest
  rw [if_neg hno.out, if_neg (by rintro (h | h); exact hk0H.out h; exact hcH.out h)]
  exact count_ends hM3H.out hs3H.out
end
end Go.Proofs.YtembpajlllnncaaGreatDoor
namespace Go.Proofs.YtembpajlllnncaaGreatDoor
open Go.RowKit

/-- A sum took a number: it is added, or it would be too great. -/
def RSum (M : Nat) (N k0 n0 k n : Int) (w : World) (e : Ending) (w' : World) : Prop :=
 if inR (n0 + n) then RAdd M 1 (N + 1) 0 (.int .i64 (if k0 = 4 ∨ k = 4 then 4 else kindI (n0 + n))) (.int .i64 (n0 + n)) (.string ⟨#[]⟩) (.slice none 0 0) (.slice none 0 0) (.slice none 0 0) w e w'
 else RAdd M 1 N 10 (.int .i64 k0) (.int .i64 n0) (.string ⟨#[]⟩) (.slice none 0 0) (.slice none 0 0) (.slice none 0 0) w e w'
set_option maxRecDepth 100000 in
set_option maxHeartbeats 4000000 in
theorem radd_num {w : World} {M : Nat} {N k0 n0 k n : Int} {s b f l : Value} (h : StR w M 1 N (.int .i64 k0) (.int .i64 n0) (.string ⟨#[]⟩) (.slice none 0 0) (.slice none 0 0) (.slice none 0 0)) (hN : 0 ≤ N ∧ N ≤ 1000000000) (hk0 : k0 = 3 ∨ k0 = 4) (hn0 : inR n0) (hk : k = 3 ∨ k = 4) (hn : inR n) :
  Calls Tryz.prog 13 #[.pointer (some ⟨M, 0, none⟩), .agg #[.int .i64 k, .int .i64 n, s, b, f, l]] w (RSum M N k0 n0 k n w) := by
 have hadd := Lib.hid (fun (W : World) => ref_two (s1 := (.string ⟨#[]⟩)) (b1 := (.slice none 0 0)) (f1 := (.slice none 0 0)) (l1 := (.slice none 0 0)) (s2 := s) (b2 := b) (f2 := f) (l2 := l) W hk0 hk hn0 hn)
 obtain ⟨W1, hW1⟩ : ∃ W1, W1 = w.alloc (.cells #[.int .i64 k, .int .i64 n, s, b, f, l] 35) := ⟨_, rfl⟩
 have hs1 : Step [] id id w W1 := by rw [hW1]; exact Step.alloc _
 have hS1 : StR W1 M 1 N (.int .i64 k0) (.int .i64 n0) (.string ⟨#[]⟩) (.slice none 0 0) (.slice none 0 0) (.slice none 0 0) := hs1.at h (by simp)
 have hB1 : W1.heap[w.heap.size]? = some (.cells #[.int .i64 k, .int .i64 n, s, b, f, l] 35 (0, 0)) := by rw [hW1]; exact heap_alloc_new w _
 have hMw := lt_of_block h
 have hMB : ¬ M = w.heap.size := by omega
 have hBM : ¬ w.heap.size = M := by omega
 have c0 := cell_blk h (i := 0) rfl
 have c2 := cell_blk hS1 (i := 2) rfl
 have c3 := cell_blk hS1 (i := 3) rfl
 have c4 := cell_blk hS1 (i := 4) rfl
 have c5 := cell_blk hS1 (i := 5) rfl
 have c6 := cell_blk hS1 (i := 6) rfl
 have c7 := cell_blk hS1 (i := 7) rfl
 have hlM := lt_of_block hS1
 have hlB := lt_of_block hB1
 obtain ⟨b0, b1, b2, b3, b4, b5⟩ := cells6A hB1
 have hwr : IntKind.i64.wrap (N + 1) = N + 1 := IntWalk.i64_in _ (by omega)
 have hW1H := Lib.hid hW1
 have hs1H := Lib.hid hs1
 have hSH := Lib.hid hS1
 have hBH := Lib.hid hB1
 have hadd2 : ∃ X0 X1 ER : Int, ((inR (n0 + n) ∧ ER = 0 ∧ X0 = (if k0 = 4 ∨ k = 4 then 4 else kindI (n0 + n)) ∧ X1 = n0 + n) ∨ (¬ inR (n0 + n) ∧ ER = 10)) ∧
   ∀ W, Calls Tryz.prog 32 #[.int .u8 43, .agg #[.int .i64 k0, .int .i64 n0, (.string ⟨#[]⟩), (.slice none 0 0), (.slice none 0 0), (.slice none 0 0)], .agg #[.int .i64 k, .int .i64 n, s, b, f, l]] W fun e w' => e = .returned (.tuple #[.agg #[.int .i64 X0, .int .i64 X1, (.string ⟨#[]⟩), (.slice none 0 0), (.slice none 0 0), (.slice none 0 0)], .int .i64 ER]) ∧ Step [] id id W w' := by
  by_cases hr : inR (n0 + n)
  ·refine ⟨_, _, 0, .inl ⟨hr, rfl, rfl, rfl⟩, fun W => (hadd.out W).mono ?_⟩
   rintro e w' ⟨rfl, hs⟩
   unfold sumC
   rw [if_pos hr, if_pos hr]
   exact ⟨rfl, hs⟩
  ·refine ⟨0, 0, 10, .inr ⟨hr, rfl⟩, fun W => (hadd.out W).mono ?_⟩
   rintro e w' ⟨rfl, hs⟩
   unfold sumC
   rw [if_neg hr, if_neg hr]
   exact ⟨rfl, hs⟩
 clear hadd
 obtain ⟨X0, X1, ER, hER, hadd⟩ := hadd2
 have hadd := Lib.hid hadd
 have hER := Lib.hid hER
 clear h hk0 hn0 hn hW1 hs1 hS1 hB1 hN
 rcases hk with rfl | rfl
 ·go_enter Tryz.func13, Tryz.ntmps13
  go_wp2_with fail
  rw [← hW1H.out]
  have hall := Lib.hid (fun (W : World) (T : List Nat) (hs : Step T id id W1 W) (h1 : M ∉ T) (h2 : w.heap.size ∉ T) =>
   And.intro (cell_blk (hs.at hSH.out h1) (i := 2) rfl) (And.intro (cell_blk (hs.at hSH.out h1) (i := 3) rfl) (And.intro (cell_blk (hs.at hSH.out h1) (i := 4) rfl) (And.intro (cell_blk (hs.at hSH.out h1) (i := 5) rfl) (And.intro (cell_blk (hs.at hSH.out h1) (i := 6) rfl) (And.intro (cell_blk (hs.at hSH.out h1) (i := 7) rfl) (cells6A (hs.at hBH.out h2))))))))
  refine wp_region_held_drew (S := fun w' => w'.cell? ⟨M, 2, none⟩ = some (.int .i64 k0) ∧ w'.cell? ⟨M, 3, none⟩ = some (.int .i64 n0) ∧ w'.cell? ⟨M, 4, none⟩ = some (.string ⟨#[]⟩) ∧ w'.cell? ⟨M, 5, none⟩ = some (.slice none 0 0) ∧ w'.cell? ⟨M, 6, none⟩ = some (.slice none 0 0) ∧ w'.cell? ⟨M, 7, none⟩ = some (.slice none 0 0) ∧
   w'.cell? ⟨w.heap.size, 0, none⟩ = some (.int .i64 3) ∧ w'.cell? ⟨w.heap.size, 1, none⟩ = some (.int .i64 n) ∧ w'.cell? ⟨w.heap.size, 2, none⟩ = some s ∧ w'.cell? ⟨w.heap.size, 3, none⟩ = some b ∧ w'.cell? ⟨w.heap.size, 4, none⟩ = some f ∧ w'.cell? ⟨w.heap.size, 5, none⟩ = some l) (by kernel_rfl) ⟨c2, c3, c4, c5, c6, c7, b0, b1, b2, b3, b4, b5⟩ (fun hHeld => ?_)
  refine tkH 0 ?_ rfl (by kernel_rfl) (fun _ _ _ h => h) ?_ hHeld ?_
  rotate_left
  ·intro w' hSw; (try dsimp only at hSw); go_simp
   all_goals (with_reducible rfl)
  simp only [zP, zO, zA, zB, zC, zD, zE, zF]
  refine tkH 1 ?_ rfl (by kernel_rfl) (fun _ _ _ h => h) ?_ hHeld ?_
  rotate_left
  ·intro w' hSw; (try dsimp only at hSw); go_simp
   all_goals (with_reducible rfl)
  simp only [zP, zO, zA, zB, zC, zD, zE, zF]
  refine tkH 2 ?_ rfl (by kernel_rfl) (fun _ _ _ h => h) ?_ hHeld ?_
  rotate_left
  ·intro w' hSw; (try dsimp only at hSw); go_simp
   all_goals (with_reducible rfl)
  simp only [zP, zO, zA, zB, zC, zD, zE, zF]
  refine tkH 3 ?_ rfl (by kernel_rfl) (fun _ _ _ h => h) ?_ hHeld ?_
  rotate_left
  ·intro w' hSw; (try dsimp only at hSw); go_simp
   all_goals (with_reducible rfl)
  simp only [zP, zO, zA, zB, zC, zD, zE, zF]
  refine tkH 4 ?_ rfl (by kernel_rfl) (fun _ _ _ h => h) ?_ hHeld ?_
  rotate_left
  ·intro w' hSw; (try dsimp only at hSw); go_simp
   all_goals (with_reducible rfl)
  simp only [zP, zO, zA, zB, zC, zD, zE, zF]
  refine wpAnyH_ready (rs := [5, 9]) (by kernel_rfl) (by simp) ?_
  refine AllReadyH.cons (o := _) rfl (fun K hK => ?_) (AllReadyH.cons (o := _) rfl (fun K hK => ?_) AllReadyH.nil)
  ·go_simp
   refine (hadd.out _).mono ?_
   rintro e w4 ⟨rfl, hs4⟩
   have hs14 : Step [] id id W1 w4 := Step.drew.tail hs4
   go_wp2_with fail
   refine hK.out _ _ ?_ (fun hHeld => ?_)
   ·exact hall.out _ _ hs14 (by simp) (by simp)
   clear hK K
   refine tkH 6 ?_ rfl (by kernel_rfl) (fun _ _ _ h => h) ?_ hHeld ?_
   rotate_left
   ·intro w' hSw; (try dsimp only at hSw); go_simp
    all_goals (with_reducible rfl)
   simp only [zP, zO, zA, zB, zC, zD, zE, zF]
   refine tkH 7 ?_ rfl (by kernel_rfl) (fun _ _ _ h => h) ?_ hHeld ?_
   rotate_left
   ·intro w' hSw; (try dsimp only at hSw); go_simp
    all_goals (with_reducible rfl)
   simp only [zP, zO, zA, zB, zC, zD, zE, zF]
   refine tkH 8 ?_ rfl (by kernel_rfl) (fun _ _ _ h => h) ?_ hHeld ?_
   rotate_left
   ·intro w' hSw; (try dsimp only at hSw); go_simp
    all_goals (with_reducible rfl)
   simp only [zP, zO, zA, zB, zC, zD, zE, zF]
   refine wpAnyH_ready (rs := [9]) (by kernel_rfl) (by simp) ?_
   refine AllReadyH.cons (o := _) rfl (fun K hK => ?_) AllReadyH.nil
   go_simp
   obtain ⟨W5, hW5⟩ : ∃ W5, W5 = w4.alloc (.cells #[.int .i64 0, .int .i64 0, (.string ⟨#[]⟩), (.slice none 0 0), (.slice none 0 0), (.slice none 0 0)] 35) := ⟨_, rfl⟩
   have hZ5 : W5.heap[w4.heap.size]? = some (.cells #[.int .i64 0, .int .i64 0, (.string ⟨#[]⟩), (.slice none 0 0), (.slice none 0 0), (.slice none 0 0)] 35 (0, 0)) := by rw [hW5]; exact heap_alloc_new w4 _
   have hs15 : Step [] id id W1 W5 := by rw [hW5]; exact hs14.tail (Step.alloc _)
   have hV5 : W1.heap.size ≤ w4.heap.size := hs14.size
   rw [← hW5]
   clear hW5
   refine hK.out _ _ ?_ (fun hHeld => ?_)
   ·exact hall.out _ _ hs15 (by simp) (by simp)
   clear hK K
   have hSl := lt_of_block hSH.out
   have hBl := lt_of_block hBH.out
   obtain ⟨z0, z1, z2, z3, z4, z5⟩ := cells6A hZ5
   have fz := free_blk hZ5
   have lz := lt_of_block hZ5
   refine wpAnyH_ready (rs := [10]) (by kernel_rfl) (by simp) ?_
   refine AllReadyH.cons (o := _) rfl (fun K hK => ?_) AllReadyH.nil
   go_simp
   have hg6 : W5.grownBy (set6 W5 w4.heap.size (.int .i64 X0) (.int .i64 X1) (.string ⟨#[]⟩) (.slice none 0 0) (.slice none 0 0) (.slice none 0 0)) (some w4.heap.size) := set6_grown
   change K _ (set6 W5 w4.heap.size (.int .i64 X0) (.int .i64 X1) (.string ⟨#[]⟩) (.slice none 0 0) (.slice none 0 0) (.slice none 0 0))
   obtain ⟨W6, hW6⟩ : ∃ W6, W6 = set6 W5 w4.heap.size (.int .i64 X0) (.int .i64 X1) (.string ⟨#[]⟩) (.slice none 0 0) (.slice none 0 0) (.slice none 0 0) := ⟨_, rfl⟩
   have hX6 : W6.heap[w4.heap.size]? = some (.cells #[.int .i64 X0, .int .i64 X1, (.string ⟨#[]⟩), (.slice none 0 0), (.slice none 0 0), (.slice none 0 0)] 35 (0, 0)) := by rw [hW6]; exact set6_heap hZ5
   rw [← hW6] at hg6 ⊢
   have hs56 : Step [w4.heap.size] id id W5 W6 := .grown hg6 (fun k hk => by cases hk; simp)
   have hs16 : Step [] id id W1 W6 := hs15.tailNew hs56 (fun r hr => .inr (by rw [List.mem_singleton] at hr; rw [hr]; exact hV5))
   clear hW6
   refine hK.out _ _ ?_ (fun hHeld => ?_)
   ·exact hall.out _ _ hs16 (by simp) (by simp)
   clear hK K z0 z1 z2 z3 z4 z5 fz lz hg6 hs56
   refine tkH 11 ?_ rfl (by kernel_rfl) (fun _ _ _ h => h) ?_ hHeld ?_
   rotate_left
   ·intro w' hSw; (try dsimp only at hSw); go_simp
    all_goals (with_reducible rfl)
   simp only [zP, zO, zA, zB, zC, zD, zE, zF]
   refine wpAnyH_done (by kernel_rfl) ?_ _
   clear c2 c3 c4 c5 c6 c7 b0 b1 b2 b3 b4 b5 hHeld
   have hS6 := hs16.at hSH.out (by simp)
   have fS := free_blk hS6
   have c1 := cell_blk hS6 (i := 1) rfl
   have c2 := cell_blk hS6 (i := 2) rfl
   have c3 := cell_blk hS6 (i := 3) rfl
   have c4 := cell_blk hS6 (i := 4) rfl
   have c5 := cell_blk hS6 (i := 5) rfl
   have c6 := cell_blk hS6 (i := 6) rfl
   have c7 := cell_blk hS6 (i := 7) rfl
   obtain ⟨x0, x1, x2, x3, x4, x5⟩ := cells6A hX6
   have lX := lt_of_block hX6
   have lS := lt_of_block hS6
   have hSX : ¬ M = w4.heap.size := by omega
   have hXS : ¬ w4.heap.size = M := by omega
   have hS6H := Lib.hid hS6
   have hs16H := Lib.hid hs16
   clear hS6 hs16 hX6 hs15 hZ5
   rcases hER.out with ⟨hr, rfl, hX0, hX1⟩ | ⟨hr, rfl⟩
   ·have hrH := Lib.hid (And.intro hr (And.intro hX0 hX1))
    clear hr hX0 hX1
    go_wp2_with fail
    go_ret
    obtain ⟨hr, hX0, hX1⟩ := hrH.out
    unfold RSum
    first | rw [if_pos hr, ← hX0, ← hX1] | rw [if_pos hr, show (if k0 = 4 ∨ (4 : Int) = 4 then (4 : Int) else kindI (n0 + n)) = X0 from (by rw [hX0]; simp), ← hX1]
    exact value_ends hS6H.out (hs1H.out.tail hs16H.out)
   ·have hrH := Lib.hid hr
    clear hr
    go_wp2_with fail
    go_ret
    unfold RSum
    rw [if_neg hrH.out]
    exact ⟨rfl, hS6H.out, (hs1H.out.tail hs16H.out).mono (fun _ h => by cases h)⟩
  ·go_simp
   obtain ⟨W4, hW4⟩ : ∃ W4, W4 = (W1.alloc (.cells #[.int .i64 0, .int .i64 0, (.string ⟨#[]⟩), (.slice none 0 0), (.slice none 0 0), (.slice none 0 0)] 35)).drew := ⟨_, rfl⟩
   have hZ4 : W4.heap[W1.heap.size]? = some (.cells #[.int .i64 0, .int .i64 0, (.string ⟨#[]⟩), (.slice none 0 0), (.slice none 0 0), (.slice none 0 0)] 35 (0, 0)) := by rw [hW4]; exact heap_alloc_new W1 _
   have hs14 : Step [] id id W1 W4 := by rw [hW4]; exact (Step.alloc _).tail Step.drew
   rw [← hW4]
   clear hW4
   refine hK.out _ _ ?_ (fun hHeld => ?_)
   ·exact hall.out _ _ hs14 (by simp) (by simp)
   clear hK K
   refine wpAnyH_ready (rs := [5]) (by kernel_rfl) (by simp) ?_
   refine AllReadyH.cons (o := _) rfl (fun K hK => ?_) AllReadyH.nil
   go_simp
   refine (hadd.out _).mono ?_
   rintro e W5 ⟨rfl, hs45⟩
   have hZ5 := hs45.at hZ4 (by simp)
   have hs15 := hs14.tail hs45
   have hV5 : W1.heap.size ≤ W1.heap.size := Nat.le_refl _
   go_wp2_with fail
   refine hK.out _ _ ?_ (fun hHeld => ?_)
   ·exact hall.out _ _ hs15 (by simp) (by simp)
   clear hK K hs45 hZ4 hs14
   refine tkH 6 ?_ rfl (by kernel_rfl) (fun _ _ _ h => h) ?_ hHeld ?_
   rotate_left
   ·intro w' hSw; (try dsimp only at hSw); go_simp
    all_goals (with_reducible rfl)
   simp only [zP, zO, zA, zB, zC, zD, zE, zF]
   refine tkH 7 ?_ rfl (by kernel_rfl) (fun _ _ _ h => h) ?_ hHeld ?_
   rotate_left
   ·intro w' hSw; (try dsimp only at hSw); go_simp
    all_goals (with_reducible rfl)
   simp only [zP, zO, zA, zB, zC, zD, zE, zF]
   refine tkH 8 ?_ rfl (by kernel_rfl) (fun _ _ _ h => h) ?_ hHeld ?_
   rotate_left
   ·intro w' hSw; (try dsimp only at hSw); go_simp
    all_goals (with_reducible rfl)
   simp only [zP, zO, zA, zB, zC, zD, zE, zF]
   have hSl := lt_of_block hSH.out
   have hBl := lt_of_block hBH.out
   obtain ⟨z0, z1, z2, z3, z4, z5⟩ := cells6A hZ5
   have fz := free_blk hZ5
   have lz := lt_of_block hZ5
   refine wpAnyH_ready (rs := [10]) (by kernel_rfl) (by simp) ?_
   refine AllReadyH.cons (o := _) rfl (fun K hK => ?_) AllReadyH.nil
   go_simp
   have hg6 : W5.grownBy (set6 W5 W1.heap.size (.int .i64 X0) (.int .i64 X1) (.string ⟨#[]⟩) (.slice none 0 0) (.slice none 0 0) (.slice none 0 0)) (some W1.heap.size) := set6_grown
   change K _ (set6 W5 W1.heap.size (.int .i64 X0) (.int .i64 X1) (.string ⟨#[]⟩) (.slice none 0 0) (.slice none 0 0) (.slice none 0 0))
   obtain ⟨W6, hW6⟩ : ∃ W6, W6 = set6 W5 W1.heap.size (.int .i64 X0) (.int .i64 X1) (.string ⟨#[]⟩) (.slice none 0 0) (.slice none 0 0) (.slice none 0 0) := ⟨_, rfl⟩
   have hX6 : W6.heap[W1.heap.size]? = some (.cells #[.int .i64 X0, .int .i64 X1, (.string ⟨#[]⟩), (.slice none 0 0), (.slice none 0 0), (.slice none 0 0)] 35 (0, 0)) := by rw [hW6]; exact set6_heap hZ5
   rw [← hW6] at hg6 ⊢
   have hs56 : Step [W1.heap.size] id id W5 W6 := .grown hg6 (fun k hk => by cases hk; simp)
   have hs16 : Step [] id id W1 W6 := hs15.tailNew hs56 (fun r hr => .inr (by rw [List.mem_singleton] at hr; rw [hr]; exact hV5))
   clear hW6
   refine hK.out _ _ ?_ (fun hHeld => ?_)
   ·exact hall.out _ _ hs16 (by simp) (by simp)
   clear hK K z0 z1 z2 z3 z4 z5 fz lz hg6 hs56
   refine tkH 11 ?_ rfl (by kernel_rfl) (fun _ _ _ h => h) ?_ hHeld ?_
   rotate_left
   ·intro w' hSw; (try dsimp only at hSw); go_simp
    all_goals (with_reducible rfl)
   simp only [zP, zO, zA, zB, zC, zD, zE, zF]
   refine wpAnyH_done (by kernel_rfl) ?_ _
   clear c2 c3 c4 c5 c6 c7 b0 b1 b2 b3 b4 b5 hHeld
   have hS6 := hs16.at hSH.out (by simp)
   have fS := free_blk hS6
   have c1 := cell_blk hS6 (i := 1) rfl
   have c2 := cell_blk hS6 (i := 2) rfl
   have c3 := cell_blk hS6 (i := 3) rfl
   have c4 := cell_blk hS6 (i := 4) rfl
   have c5 := cell_blk hS6 (i := 5) rfl
   have c6 := cell_blk hS6 (i := 6) rfl
   have c7 := cell_blk hS6 (i := 7) rfl
   obtain ⟨x0, x1, x2, x3, x4, x5⟩ := cells6A hX6
   have lX := lt_of_block hX6
   have lS := lt_of_block hS6
   have hSX : ¬ M = W1.heap.size := by omega
   have hXS : ¬ W1.heap.size = M := by omega
   have hS6H := Lib.hid hS6
   have hs16H := Lib.hid hs16
   clear hS6 hs16 hX6 hs15 hZ5
   rcases hER.out with ⟨hr, rfl, hX0, hX1⟩ | ⟨hr, rfl⟩
   ·have hrH := Lib.hid (And.intro hr (And.intro hX0 hX1))
    clear hr hX0 hX1
    go_wp2_with fail
    go_ret
    obtain ⟨hr, hX0, hX1⟩ := hrH.out
    unfold RSum
    first | rw [if_pos hr, ← hX0, ← hX1] | rw [if_pos hr, show (if k0 = 4 ∨ (4 : Int) = 4 then (4 : Int) else kindI (n0 + n)) = X0 from (by rw [hX0]; simp), ← hX1]
    exact value_ends hS6H.out (hs1H.out.tail hs16H.out)
   ·have hrH := Lib.hid hr
    clear hr
    go_wp2_with fail
    go_ret
    unfold RSum
    rw [if_neg hrH.out]
    exact ⟨rfl, hS6H.out, (hs1H.out.tail hs16H.out).mono (fun _ h => by cases h)⟩
 ·go_enter Tryz.func13, Tryz.ntmps13
  go_wp2_with fail
  rw [← hW1H.out]
  have hall := Lib.hid (fun (W : World) (T : List Nat) (hs : Step T id id W1 W) (h1 : M ∉ T) (h2 : w.heap.size ∉ T) =>
   And.intro (cell_blk (hs.at hSH.out h1) (i := 2) rfl) (And.intro (cell_blk (hs.at hSH.out h1) (i := 3) rfl) (And.intro (cell_blk (hs.at hSH.out h1) (i := 4) rfl) (And.intro (cell_blk (hs.at hSH.out h1) (i := 5) rfl) (And.intro (cell_blk (hs.at hSH.out h1) (i := 6) rfl) (And.intro (cell_blk (hs.at hSH.out h1) (i := 7) rfl) (cells6A (hs.at hBH.out h2))))))))
  refine wp_region_held_drew (S := fun w' => w'.cell? ⟨M, 2, none⟩ = some (.int .i64 k0) ∧ w'.cell? ⟨M, 3, none⟩ = some (.int .i64 n0) ∧ w'.cell? ⟨M, 4, none⟩ = some (.string ⟨#[]⟩) ∧ w'.cell? ⟨M, 5, none⟩ = some (.slice none 0 0) ∧ w'.cell? ⟨M, 6, none⟩ = some (.slice none 0 0) ∧ w'.cell? ⟨M, 7, none⟩ = some (.slice none 0 0) ∧
   w'.cell? ⟨w.heap.size, 0, none⟩ = some (.int .i64 4) ∧ w'.cell? ⟨w.heap.size, 1, none⟩ = some (.int .i64 n) ∧ w'.cell? ⟨w.heap.size, 2, none⟩ = some s ∧ w'.cell? ⟨w.heap.size, 3, none⟩ = some b ∧ w'.cell? ⟨w.heap.size, 4, none⟩ = some f ∧ w'.cell? ⟨w.heap.size, 5, none⟩ = some l) (by kernel_rfl) ⟨c2, c3, c4, c5, c6, c7, b0, b1, b2, b3, b4, b5⟩ (fun hHeld => ?_)
  refine tkH 0 ?_ rfl (by kernel_rfl) (fun _ _ _ h => h) ?_ hHeld ?_
  rotate_left
  ·intro w' hSw; (try dsimp only at hSw); go_simp
   all_goals (with_reducible rfl)
  simp only [zP, zO, zA, zB, zC, zD, zE, zF]
  refine tkH 1 ?_ rfl (by kernel_rfl) (fun _ _ _ h => h) ?_ hHeld ?_
  rotate_left
  ·intro w' hSw; (try dsimp only at hSw); go_simp
   all_goals (with_reducible rfl)
  simp only [zP, zO, zA, zB, zC, zD, zE, zF]
  refine tkH 2 ?_ rfl (by kernel_rfl) (fun _ _ _ h => h) ?_ hHeld ?_
  rotate_left
  ·intro w' hSw; (try dsimp only at hSw); go_simp
   all_goals (with_reducible rfl)
  simp only [zP, zO, zA, zB, zC, zD, zE, zF]
  refine tkH 3 ?_ rfl (by kernel_rfl) (fun _ _ _ h => h) ?_ hHeld ?_
  rotate_left
  ·intro w' hSw; (try dsimp only at hSw); go_simp
   all_goals (with_reducible rfl)
  simp only [zP, zO, zA, zB, zC, zD, zE, zF]
  refine tkH 4 ?_ rfl (by kernel_rfl) (fun _ _ _ h => h) ?_ hHeld ?_
  rotate_left
  ·intro w' hSw; (try dsimp only at hSw); go_simp
   all_goals (with_reducible rfl)
  simp only [zP, zO, zA, zB, zC, zD, zE, zF]
  refine wpAnyH_ready (rs := [5, 9]) (by kernel_rfl) (by simp) ?_
  refine AllReadyH.cons (o := _) rfl (fun K hK => ?_) (AllReadyH.cons (o := _) rfl (fun K hK => ?_) AllReadyH.nil)
  ·go_simp
   refine (hadd.out _).mono ?_
   rintro e w4 ⟨rfl, hs4⟩
   have hs14 : Step [] id id W1 w4 := Step.drew.tail hs4
   go_wp2_with fail
   refine hK.out _ _ ?_ (fun hHeld => ?_)
   ·exact hall.out _ _ hs14 (by simp) (by simp)
   clear hK K
   refine tkH 6 ?_ rfl (by kernel_rfl) (fun _ _ _ h => h) ?_ hHeld ?_
   rotate_left
   ·intro w' hSw; (try dsimp only at hSw); go_simp
    all_goals (with_reducible rfl)
   simp only [zP, zO, zA, zB, zC, zD, zE, zF]
   refine tkH 7 ?_ rfl (by kernel_rfl) (fun _ _ _ h => h) ?_ hHeld ?_
   rotate_left
   ·intro w' hSw; (try dsimp only at hSw); go_simp
    all_goals (with_reducible rfl)
   simp only [zP, zO, zA, zB, zC, zD, zE, zF]
   refine tkH 8 ?_ rfl (by kernel_rfl) (fun _ _ _ h => h) ?_ hHeld ?_
   rotate_left
   ·intro w' hSw; (try dsimp only at hSw); go_simp
    all_goals (with_reducible rfl)
   simp only [zP, zO, zA, zB, zC, zD, zE, zF]
   refine wpAnyH_ready (rs := [9]) (by kernel_rfl) (by simp) ?_
   refine AllReadyH.cons (o := _) rfl (fun K hK => ?_) AllReadyH.nil
   go_simp
   obtain ⟨W5, hW5⟩ : ∃ W5, W5 = w4.alloc (.cells #[.int .i64 0, .int .i64 0, (.string ⟨#[]⟩), (.slice none 0 0), (.slice none 0 0), (.slice none 0 0)] 35) := ⟨_, rfl⟩
   have hZ5 : W5.heap[w4.heap.size]? = some (.cells #[.int .i64 0, .int .i64 0, (.string ⟨#[]⟩), (.slice none 0 0), (.slice none 0 0), (.slice none 0 0)] 35 (0, 0)) := by rw [hW5]; exact heap_alloc_new w4 _
   have hs15 : Step [] id id W1 W5 := by rw [hW5]; exact hs14.tail (Step.alloc _)
   have hV5 : W1.heap.size ≤ w4.heap.size := hs14.size
   rw [← hW5]
   clear hW5
   refine hK.out _ _ ?_ (fun hHeld => ?_)
   ·exact hall.out _ _ hs15 (by simp) (by simp)
   clear hK K
   have hSl := lt_of_block hSH.out
   have hBl := lt_of_block hBH.out
   obtain ⟨z0, z1, z2, z3, z4, z5⟩ := cells6A hZ5
   have fz := free_blk hZ5
   have lz := lt_of_block hZ5
   refine wpAnyH_ready (rs := [10]) (by kernel_rfl) (by simp) ?_
   refine AllReadyH.cons (o := _) rfl (fun K hK => ?_) AllReadyH.nil
   go_simp
   have hg6 : W5.grownBy (set6 W5 w4.heap.size (.int .i64 X0) (.int .i64 X1) (.string ⟨#[]⟩) (.slice none 0 0) (.slice none 0 0) (.slice none 0 0)) (some w4.heap.size) := set6_grown
   change K _ (set6 W5 w4.heap.size (.int .i64 X0) (.int .i64 X1) (.string ⟨#[]⟩) (.slice none 0 0) (.slice none 0 0) (.slice none 0 0))
   obtain ⟨W6, hW6⟩ : ∃ W6, W6 = set6 W5 w4.heap.size (.int .i64 X0) (.int .i64 X1) (.string ⟨#[]⟩) (.slice none 0 0) (.slice none 0 0) (.slice none 0 0) := ⟨_, rfl⟩
   have hX6 : W6.heap[w4.heap.size]? = some (.cells #[.int .i64 X0, .int .i64 X1, (.string ⟨#[]⟩), (.slice none 0 0), (.slice none 0 0), (.slice none 0 0)] 35 (0, 0)) := by rw [hW6]; exact set6_heap hZ5
   rw [← hW6] at hg6 ⊢
   have hs56 : Step [w4.heap.size] id id W5 W6 := .grown hg6 (fun k hk => by cases hk; simp)
   have hs16 : Step [] id id W1 W6 := hs15.tailNew hs56 (fun r hr => .inr (by rw [List.mem_singleton] at hr; rw [hr]; exact hV5))
   clear hW6
   refine hK.out _ _ ?_ (fun hHeld => ?_)
   ·exact hall.out _ _ hs16 (by simp) (by simp)
   clear hK K z0 z1 z2 z3 z4 z5 fz lz hg6 hs56
   refine tkH 11 ?_ rfl (by kernel_rfl) (fun _ _ _ h => h) ?_ hHeld ?_
   rotate_left
   ·intro w' hSw; (try dsimp only at hSw); go_simp
    all_goals (with_reducible rfl)
   simp only [zP, zO, zA, zB, zC, zD, zE, zF]
   refine wpAnyH_done (by kernel_rfl) ?_ _
   clear c2 c3 c4 c5 c6 c7 b0 b1 b2 b3 b4 b5 hHeld
   have hS6 := hs16.at hSH.out (by simp)
   have fS := free_blk hS6
   have c1 := cell_blk hS6 (i := 1) rfl
   have c2 := cell_blk hS6 (i := 2) rfl
   have c3 := cell_blk hS6 (i := 3) rfl
   have c4 := cell_blk hS6 (i := 4) rfl
   have c5 := cell_blk hS6 (i := 5) rfl
   have c6 := cell_blk hS6 (i := 6) rfl
   have c7 := cell_blk hS6 (i := 7) rfl
   obtain ⟨x0, x1, x2, x3, x4, x5⟩ := cells6A hX6
   have lX := lt_of_block hX6
   have lS := lt_of_block hS6
   have hSX : ¬ M = w4.heap.size := by omega
   have hXS : ¬ w4.heap.size = M := by omega
   have hS6H := Lib.hid hS6
   have hs16H := Lib.hid hs16
   clear hS6 hs16 hX6 hs15 hZ5
   rcases hER.out with ⟨hr, rfl, hX0, hX1⟩ | ⟨hr, rfl⟩
   ·have hrH := Lib.hid (And.intro hr (And.intro hX0 hX1))
    clear hr hX0 hX1
    go_wp2_with fail
    go_ret
    obtain ⟨hr, hX0, hX1⟩ := hrH.out
    unfold RSum
    first | rw [if_pos hr, ← hX0, ← hX1] | rw [if_pos hr, show (if k0 = 4 ∨ (4 : Int) = 4 then (4 : Int) else kindI (n0 + n)) = X0 from (by rw [hX0]; simp), ← hX1]
    exact value_ends hS6H.out (hs1H.out.tail hs16H.out)
   ·have hrH := Lib.hid hr
    clear hr
    go_wp2_with fail
    go_ret
    unfold RSum
    rw [if_neg hrH.out]
    exact ⟨rfl, hS6H.out, (hs1H.out.tail hs16H.out).mono (fun _ h => by cases h)⟩
  ·go_simp
   obtain ⟨W4, hW4⟩ : ∃ W4, W4 = (W1.alloc (.cells #[.int .i64 0, .int .i64 0, (.string ⟨#[]⟩), (.slice none 0 0), (.slice none 0 0), (.slice none 0 0)] 35)).drew := ⟨_, rfl⟩
   have hZ4 : W4.heap[W1.heap.size]? = some (.cells #[.int .i64 0, .int .i64 0, (.string ⟨#[]⟩), (.slice none 0 0), (.slice none 0 0), (.slice none 0 0)] 35 (0, 0)) := by rw [hW4]; exact heap_alloc_new W1 _
   have hs14 : Step [] id id W1 W4 := by rw [hW4]; exact (Step.alloc _).tail Step.drew
   rw [← hW4]
   clear hW4
   refine hK.out _ _ ?_ (fun hHeld => ?_)
   ·exact hall.out _ _ hs14 (by simp) (by simp)
   clear hK K
   refine wpAnyH_ready (rs := [5]) (by kernel_rfl) (by simp) ?_
   refine AllReadyH.cons (o := _) rfl (fun K hK => ?_) AllReadyH.nil
   go_simp
   refine (hadd.out _).mono ?_
   rintro e W5 ⟨rfl, hs45⟩
   have hZ5 := hs45.at hZ4 (by simp)
   have hs15 := hs14.tail hs45
   have hV5 : W1.heap.size ≤ W1.heap.size := Nat.le_refl _
   go_wp2_with fail
   refine hK.out _ _ ?_ (fun hHeld => ?_)
   ·exact hall.out _ _ hs15 (by simp) (by simp)
   clear hK K hs45 hZ4 hs14
   refine tkH 6 ?_ rfl (by kernel_rfl) (fun _ _ _ h => h) ?_ hHeld ?_
   rotate_left
   ·intro w' hSw; (try dsimp only at hSw); go_simp
    all_goals (with_reducible rfl)
   simp only [zP, zO, zA, zB, zC, zD, zE, zF]
   refine tkH 7 ?_ rfl (by kernel_rfl) (fun _ _ _ h => h) ?_ hHeld ?_
   rotate_left
   ·intro w' hSw; (try dsimp only at hSw); go_simp
    all_goals (with_reducible rfl)
   simp only [zP, zO, zA, zB, zC, zD, zE, zF]
   refine tkH 8 ?_ rfl (by kernel_rfl) (fun _ _ _ h => h) ?_ hHeld ?_
   rotate_left
   ·intro w' hSw; (try dsimp only at hSw); go_simp
    all_goals (with_reducible rfl)
   simp only [zP, zO, zA, zB, zC, zD, zE, zF]
   have hSl := lt_of_block hSH.out
   have hBl := lt_of_block hBH.out
   obtain ⟨z0, z1, z2, z3, z4, z5⟩ := cells6A hZ5
   have fz := free_blk hZ5
   have lz := lt_of_block hZ5
   refine wpAnyH_ready (rs := [10]) (by kernel_rfl) (by simp) ?_
   refine AllReadyH.cons (o := _) rfl (fun K hK => ?_) AllReadyH.nil
   go_simp
   have hg6 : W5.grownBy (set6 W5 W1.heap.size (.int .i64 X0) (.int .i64 X1) (.string ⟨#[]⟩) (.slice none 0 0) (.slice none 0 0) (.slice none 0 0)) (some W1.heap.size) := set6_grown
   change K _ (set6 W5 W1.heap.size (.int .i64 X0) (.int .i64 X1) (.string ⟨#[]⟩) (.slice none 0 0) (.slice none 0 0) (.slice none 0 0))
   obtain ⟨W6, hW6⟩ : ∃ W6, W6 = set6 W5 W1.heap.size (.int .i64 X0) (.int .i64 X1) (.string ⟨#[]⟩) (.slice none 0 0) (.slice none 0 0) (.slice none 0 0) := ⟨_, rfl⟩
   have hX6 : W6.heap[W1.heap.size]? = some (.cells #[.int .i64 X0, .int .i64 X1, (.string ⟨#[]⟩), (.slice none 0 0), (.slice none 0 0), (.slice none 0 0)] 35 (0, 0)) := by rw [hW6]; exact set6_heap hZ5
   rw [← hW6] at hg6 ⊢
   have hs56 : Step [W1.heap.size] id id W5 W6 := .grown hg6 (fun k hk => by cases hk; simp)
   have hs16 : Step [] id id W1 W6 := hs15.tailNew hs56 (fun r hr => .inr (by rw [List.mem_singleton] at hr; rw [hr]; exact hV5))
   clear hW6
   refine hK.out _ _ ?_ (fun hHeld => ?_)
   ·exact hall.out _ _ hs16 (by simp) (by simp)
   clear hK K z0 z1 z2 z3 z4 z5 fz lz hg6 hs56
   refine tkH 11 ?_ rfl (by kernel_rfl) (fun _ _ _ h => h) ?_ hHeld ?_
   rotate_left
   ·intro w' hSw; (try dsimp only at hSw); go_simp
    all_goals (with_reducible rfl)
   simp only [zP, zO, zA, zB, zC, zD, zE, zF]
   refine wpAnyH_done (by kernel_rfl) ?_ _
   clear c2 c3 c4 c5 c6 c7 b0 b1 b2 b3 b4 b5 hHeld
   have hS6 := hs16.at hSH.out (by simp)
   have fS := free_blk hS6
   have c1 := cell_blk hS6 (i := 1) rfl
   have c2 := cell_blk hS6 (i := 2) rfl
   have c3 := cell_blk hS6 (i := 3) rfl
   have c4 := cell_blk hS6 (i := 4) rfl
   have c5 := cell_blk hS6 (i := 5) rfl
   have c6 := cell_blk hS6 (i := 6) rfl
   have c7 := cell_blk hS6 (i := 7) rfl
   obtain ⟨x0, x1, x2, x3, x4, x5⟩ := cells6A hX6
   have lX := lt_of_block hX6
   have lS := lt_of_block hS6
   have hSX : ¬ M = W1.heap.size := by omega
   have hXS : ¬ W1.heap.size = M := by omega
   have hS6H := Lib.hid hS6
   have hs16H := Lib.hid hs16
   clear hS6 hs16 hX6 hs15 hZ5
   rcases hER.out with ⟨hr, rfl, hX0, hX1⟩ | ⟨hr, rfl⟩
   ·have hrH := Lib.hid (And.intro hr (And.intro hX0 hX1))
    clear hr hX0 hX1
    go_wp2_with fail
    go_ret
    obtain ⟨hr, hX0, hX1⟩ := hrH.out
    unfold RSum
    first | rw [if_pos hr, ← hX0, ← hX1] | rw [if_pos hr, show (if k0 = 4 ∨ (4 : Int) = 4 then (4 : Int) else kindI (n0 + n)) = X0 from (by rw [hX0]; simp), ← hX1]
    exact value_ends hS6H.out (hs1H.out.tail hs16H.out)
   ·have hrH := Lib.hid hr
    clear hr
    go_wp2_with fail
    go_ret
    unfold RSum
    rw [if_neg hrH.out]
    exact ⟨rfl, hS6H.out, (hs1H.out.tail hs16H.out).mono (fun _ h => by cases h)⟩
end Go.Proofs.YtembpajlllnncaaGreatDoor
