/- Accumulators: how values compare that have no parts. -/
import Derived.Test.YtembpajlllnncaaDoorAcM
set_option linter.unusedVariables false
set_option linter.unusedSimpArgs false
namespace Go.Proofs.YtembpajlllnncaaDoor
open Go.RowKit

/-- How two values without parts compare. -/
def cmpK (k1 n1 k2 n2 : Int) : Int := orI (sgnI (clsOf k1) (clsOf k2)) (if k1 = 3 ∨ k1 = 4 ∨ k1 = 10 ∨ k1 = 11 then sgnI n1 n2 else 0)
set_option maxRecDepth 100000 in
set_option maxHeartbeats 2000000 in
theorem or_nums {k1 n1 k2 n2 : Int} {s1 b1 f1 l1 s2 b2 f2 l2 : Value} (w : World) :
    Calls Tryd.prog 65 #[.agg #[.int .i64 k1, .int .i64 n1, s1, b1, f1, l1], .agg #[.int .i64 k2, .int .i64 n2, s2, b2, f2, l2]] w fun e w' => e = .returned (.int .i64 (sgnI n1 n2)) ∧ Step [] id id w w' := by
  have hc := Lib.hid (fun W => cmp_int64 n1 n2 W)
  obtain ⟨S, hS⟩ : ∃ S, S = sgnI n1 n2 := ⟨_, rfl⟩
  rw [← hS] at hc ⊢
  clear hS
  go_enter Tryd.func65, Tryd.ntmps65
  go_wp2_with fail
  refine (hc.out _).mono ?_
  rintro e w' ⟨rfl, rfl⟩
  go_wp2_with fail
  go_ret
  exact ⟨rfl, (Step.alloc _).tail (Step.alloc _)⟩
set_option maxRecDepth 100000 in
set_option maxHeartbeats 2000000 in
theorem or_none {x y : Array Value} (w : World) : Calls Tryd.prog 78 #[.agg x, .agg y] w fun e w' => e = .returned (.int .i64 0) ∧ Step [] id id w w' := by
  go_enter Tryd.func78, Tryd.ntmps78
  go_wp2_with fail
  go_ret
  exact ⟨rfl, (Step.alloc _).tail (Step.alloc _)⟩
set_option maxRecDepth 100000 in
set_option maxHeartbeats 4000000 in
theorem or_flat {k1 n1 k2 n2 : Int} {s1 b1 f1 l1 s2 b2 f2 l2 : Value} (w : World) (hk : clsOf k1 ≠ clsOf k2 ∨ ¬ (5 ≤ k1 ∧ k1 ≤ 9)) :
    Calls Tryd.prog 33 #[.agg #[.int .i64 k1, .int .i64 n1, s1, b1, f1, l1], .agg #[.int .i64 k2, .int .i64 n2, s2, b2, f2, l2]] w fun e w' => e = .returned (.int .i64 (cmpK k1 n1 k2 n2)) ∧ Step [] id id w w' := by
  have hcf1 : ∀ (args : Array Value) (w : World), (callFunc 65 args).run Tryd.prog w = .ok (.enter 65 args) w := fun _ _ => by kernel_rfl
  have hcf7 : ∀ (args : Array Value) (w : World), (callFunc 78 args).run Tryd.prog w = .ok (.enter 78 args) w := fun _ _ => by kernel_rfl
  have hcl := Lib.hid (fun k W => or_class k W)
  have hci := Lib.hid (fun a b W => cmp_int a b W)
  obtain ⟨c1, hc1⟩ : ∃ c, c = clsOf k1 := ⟨_, rfl⟩
  obtain ⟨c2, hc2⟩ : ∃ c, c = clsOf k2 := ⟨_, rfl⟩
  obtain ⟨S, hS⟩ : ∃ S, S = sgnI c1 c2 := ⟨_, rfl⟩
  have hc1H := Lib.hid hc1
  have hc2H := Lib.hid hc2
  have hSH := Lib.hid hS
  have hkH := Lib.hid hk
  clear hc1 hc2 hS hk
  go_enter Tryd.func33, Tryd.ntmps33
  go_wp2_with fail
  go_quiet ((first | (go_at_call 47; exact quietL (hcl.out _ _)) | (go_at_call 46; exact quietL (hci.out _ _ _))))
  rw [← hc1H.out, ← hc2H.out, ← hSH.out]
  obtain ⟨W3, hW3⟩ : ∃ W3, W3 = (((w.alloc (.cells #[.int .i64 k1, .int .i64 n1, s1, b1, f1, l1] 32)).alloc (.cells #[.int .i64 k2, .int .i64 n2, s2, b2, f2, l2] 32)).drewN nq) := ⟨_, rfl⟩
  rw [← hW3]
  have hA : Step [] id id w W3 := by rw [hW3]; exact ((Step.alloc _).tail (Step.alloc _)).tail (Step.drewN _ _)
  have hb0 : W3.heap[w.heap.size]? = some (.cells #[.int .i64 k1, .int .i64 n1, s1, b1, f1, l1] 32 (0, 0)) := by rw [hW3]; exact drewN_blk (alloc_old (heap_alloc_new w _))
  have hb1 : W3.heap[w.heap.size + 1]? = some (.cells #[.int .i64 k2, .int .i64 n2, s2, b2, f2, l2] 32 (0, 0)) := by
    rw [hW3]; refine drewN_blk ?_
    have := heap_alloc_new (w.alloc (.cells #[.int .i64 k1, .int .i64 n1, s1, b1, f1, l1] 32)) (.cells #[.int .i64 k2, .int .i64 n2, s2, b2, f2, l2] 32)
    rwa [show (w.alloc (.cells #[.int .i64 k1, .int .i64 n1, s1, b1, f1, l1] 32)).heap.size = w.heap.size + 1 by simp] at this
  obtain ⟨a0, a1, a2, a3, a4, a5⟩ := cells6A hb0
  obtain ⟨d0, d1, d2, d3, d4, d5⟩ := cells6A hb1
  have lt0 := lt_of_block hb0
  have lt1 := lt_of_block hb1
  have hAH := Lib.hid hA
  clear hW3 hA hb0 hb1
  by_cases hS0 : S = 0
  rotate_left
  · have hSb : (S != 0) = true := by rw [bne_iff_ne]; exact hS0
    have hres := Lib.hid (show cmpK k1 n1 k2 n2 = S by unfold cmpK orI; rw [← hc1H.out, ← hc2H.out, ← hSH.out, if_pos hS0])
    clear hS0
    go_wp2_with fail
    go_ret
    exact ⟨by rw [hres.out]; rfl, hAH.out⟩
  have hcls : clsOf k1 = clsOf k2 := by
    have h := hSH.out
    rw [hS0, hc1H.out, hc2H.out] at h
    unfold sgnI at h
    split at h
    · omega
    · split at h
      · omega
      · omega
  have hk5 : ¬ (5 ≤ k1 ∧ k1 ≤ 9) := hkH.out.resolve_left (fun h => h hcls)
  have hres := Lib.hid (show cmpK k1 n1 k2 n2 = if k1 = 3 ∨ k1 = 4 ∨ k1 = 10 ∨ k1 = 11 then sgnI n1 n2 else 0 by unfold cmpK orI; rw [← hc1H.out, ← hc2H.out, ← hSH.out, hS0]; simp)
  have hwy := Lib.hid (fun W => or_way k1 W)
  clear hcls
  subst hS0
  by_cases hnum : k1 = 3 ∨ k1 = 4 ∨ k1 = 10 ∨ k1 = 11
  · have hw1 : wayOf k1 = 65 := by unfold wayOf; rw [if_pos hnum]
    rw [hw1] at hwy
    have hres := Lib.hid (hres.out.trans (if_pos hnum))
    clear hk5 hnum hw1
    go_wp2_with fail
    refine (hwy.out _).mono ?_
    rintro e w' ⟨rfl, rfl⟩
    go_wp2_with fail
    refine (or_nums _).mono ?_
    rintro e w5 ⟨rfl, hs5⟩
    have hs5H := Lib.hid (hAH.out.tail hs5)
    clear hs5
    go_wp2_with fail
    go_ret
    exact ⟨by rw [hres.out]; rfl, hs5H.out⟩
  · have hw1 : wayOf k1 = 78 := by
      unfold wayOf
      rw [if_neg hnum, if_neg (by omega), if_neg (by omega), if_neg (by omega), if_neg (by omega), if_neg (by omega)]
    rw [hw1] at hwy
    have hres := Lib.hid (hres.out.trans (if_neg hnum))
    clear hk5 hnum hw1
    go_wp2_with fail
    refine (hwy.out _).mono ?_
    rintro e w' ⟨rfl, rfl⟩
    go_wp2_with fail
    refine (or_none _).mono ?_
    rintro e w5 ⟨rfl, hs5⟩
    have hs5H := Lib.hid (hAH.out.tail hs5)
    clear hs5
    go_wp2_with fail
    go_ret
    exact ⟨by rw [hres.out]; rfl, hs5H.out⟩
end Go.Proofs.YtembpajlllnncaaDoor
