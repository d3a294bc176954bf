/- Accumulators: how values that are bytes compare. -/
import Derived.Test.YtembpajlllnncaaDoorAcCb
set_option linter.unusedVariables false
set_option linter.unusedSimpArgs false
namespace Go.Proofs.YtembpajlllnncaaDoor
open Go.RowKit

set_option maxRecDepth 100000 in
set_option maxHeartbeats 4000000 in
theorem or_bytes {P Q : Nat → Prop} {w : World} {y z : Val} {cs ds : List Value} (hy : VIs P w y cs) (hz : VIs Q w z ds) :
    Calls Tryd.prog 74 #[.agg cs.toArray, .agg ds.toArray] w fun e w' => e = .returned (.int .i64 (orI (sgnI y.b.length z.b.length) (cmpB y.b z.b))) ∧ Step [] id id w w' := by
  obtain ⟨bv, fa, fc, la, lc, hcs, hb, -⟩ := hy.cells
  obtain ⟨ba, bc, rfl⟩ := hb.shape
  obtain ⟨bv2, fa2, fc2, la2, lc2, hds, hb2, -⟩ := hz.cells
  obtain ⟨ba2, bc2, rfl⟩ := hb2.shape
  have hcmpA := Lib.hid (fun (W : World) (hs : Step [] id id w W) => bytes_cmp (hb.below.keep (P2 := fun _ => True) (w' := W) (fun _ _ => trivial) (fun k hk hl => (hs.keep k hl (by simp)).2)) (hb2.below.keep (P2 := fun _ => True) (w' := W) (fun _ _ => trivial) (fun k hk hl => (hs.keep k hl (by simp)).2)))
  obtain ⟨C, hC⟩ : ∃ C, C = cmpB y.b z.b := ⟨_, rfl⟩
  obtain ⟨n1, hn1⟩ : ∃ n, n = y.b.length := ⟨_, rfl⟩
  obtain ⟨n2, hn2⟩ : ∃ n, n = z.b.length := ⟨_, rfl⟩
  obtain ⟨T, hT⟩ : ∃ T, T = sgnI (n1 : Int) (n2 : Int) := ⟨_, rfl⟩
  rw [← hC, ← hn1, ← hn2] at hcmpA
  rw [← hC, ← hn1, ← hn2, ← hT, ← orL_two]
  rw [← hn1] at hcs
  rw [← hn2] at hds
  obtain ⟨k1, hk1⟩ : ∃ k, k = y.kind := ⟨_, rfl⟩
  obtain ⟨m1, hm1⟩ : ∃ k, k = y.num := ⟨_, rfl⟩
  obtain ⟨s1, hs1⟩ : ∃ k, k = strOf y.s := ⟨_, rfl⟩
  obtain ⟨f1, hf1⟩ : ∃ k, k = y.f.length := ⟨_, rfl⟩
  obtain ⟨l1, hl1⟩ : ∃ k, k = y.l.length := ⟨_, rfl⟩
  obtain ⟨k2, hk2⟩ : ∃ k, k = z.kind := ⟨_, rfl⟩
  obtain ⟨m2, hm2⟩ : ∃ k, k = z.num := ⟨_, rfl⟩
  obtain ⟨s2, hs2⟩ : ∃ k, k = strOf z.s := ⟨_, rfl⟩
  obtain ⟨f2, hf2⟩ : ∃ k, k = z.f.length := ⟨_, rfl⟩
  obtain ⟨l2, hl2⟩ : ∃ k, k = z.l.length := ⟨_, rfl⟩
  rw [← hk1, ← hm1, ← hs1, ← hf1, ← hl1] at hcs
  rw [← hk2, ← hm2, ← hs2, ← hf2, ← hl2] at hds
  subst hcs hds
  have hci := Lib.hid (fun W => cmp_int (n1 : Int) (n2 : Int) W)
  rw [← hT] at hci
  obtain ⟨W1, hW1⟩ : ∃ W1, W1 = (w.alloc (.cells #[.int .i64 k1, .int .i64 m1, .string s1, .slice ba n1 bc, .slice fa f1 fc, .slice la l1 lc] 32)).alloc (.cells #[.int .i64 k2, .int .i64 m2, .string s2, .slice ba2 n2 bc2, .slice fa2 f2 fc2, .slice la2 l2 lc2] 32) := ⟨_, rfl⟩
  have hst1 : Step [] id id w W1 := by rw [hW1]; exact (Step.alloc _).tail (Step.alloc _)
  have hA : W1.heap[w.heap.size]? = some (.cells #[.int .i64 k1, .int .i64 m1, .string s1, .slice ba n1 bc, .slice fa f1 fc, .slice la l1 lc] 32 (0, 0)) := by rw [hW1]; exact alloc_old (heap_alloc_new w _)
  have hB : W1.heap[w.heap.size + 1]? = some (.cells #[.int .i64 k2, .int .i64 m2, .string s2, .slice ba2 n2 bc2, .slice fa2 f2 fc2, .slice la2 l2 lc2] 32 (0, 0)) := by
    rw [hW1]
    have := heap_alloc_new (w.alloc (.cells #[.int .i64 k1, .int .i64 m1, .string s1, .slice ba n1 bc, .slice fa f1 fc, .slice la l1 lc] 32)) (.cells #[.int .i64 k2, .int .i64 m2, .string s2, .slice ba2 n2 bc2, .slice fa2 f2 fc2, .slice la2 l2 lc2] 32)
    rwa [show (w.alloc (.cells #[.int .i64 k1, .int .i64 m1, .string s1, .slice ba n1 bc, .slice fa f1 fc, .slice la l1 lc] 32)).heap.size = w.heap.size + 1 by simp] at this
  have hall := Lib.hid (fun (W : World) (hs : Step [] id id W1 W) => And.intro (cell_blk (hs.at hA (by simp)) (i := 3) rfl) (cell_blk (hs.at hB (by simp)) (i := 3) rfl))
  have hst1H := Lib.hid hst1
  have hW1H := Lib.hid hW1
  have a3 := cell_blk hA (i := 3) rfl
  have b3 := cell_blk hB (i := 3) rfl
  clear hy hz hb hb2 hC hn1 hn2 hT hk1 hm1 hs1 hf1 hl1 hk2 hm2 hs2 hf2 hl2 hW1 hst1 hA hB
  go_enter Tryd.func74, Tryd.ntmps74
  go_wp2_with fail
  rw [← hW1H.out]
  refine wp_region_held_drew (S := fun w' => w'.cell? ⟨w.heap.size, 3, none⟩ = some (.slice ba n1 bc) ∧ w'.cell? ⟨w.heap.size + 1, 3, none⟩ = some (.slice ba2 n2 bc2)) (by kernel_rfl) ⟨a3, b3⟩ (fun hHeld => ?_)
  refine wpAnyH_take (i := 0) (v := ?_) rfl (by kernel_rfl) (by kernel_rfl) (by kernel_rfl) (fun _ _ _ h => h) (Or.inl ⟨by kernel_rfl, ?_⟩) hHeld ?_
  rotate_left
  · intro w' hSw; (try dsimp only at hSw); go_simp
    all_goals (with_reducible rfl)
  simp only [Act.put, List.getElem_toArray, List.getElem_cons_zero, List.getElem_cons_succ, List.setIfInBounds_toArray, List.set_cons_zero, List.set_cons_succ]
  refine wpAnyH_take (i := 1) (v := ?_) rfl (by kernel_rfl) (by kernel_rfl) (by kernel_rfl) (fun _ _ _ h => h) (Or.inl ⟨by kernel_rfl, ?_⟩) hHeld ?_
  rotate_left
  · intro w' hSw; (try dsimp only at hSw); go_simp
    all_goals (with_reducible rfl)
  simp only [Act.put, List.getElem_toArray, List.getElem_cons_zero, List.getElem_cons_succ, List.setIfInBounds_toArray, List.set_cons_zero, List.set_cons_succ]
  refine wpAnyH_take (i := 2) (v := ?_) rfl (by kernel_rfl) (by kernel_rfl) (by kernel_rfl) (fun _ _ _ h => h) (Or.inl ⟨by kernel_rfl, ?_⟩) hHeld ?_
  rotate_left
  · intro w' hSw; (try dsimp only at hSw); go_simp
    all_goals (with_reducible rfl)
  simp only [Act.put, List.getElem_toArray, List.getElem_cons_zero, List.getElem_cons_succ, List.setIfInBounds_toArray, List.set_cons_zero, List.set_cons_succ]
  refine wpAnyH_take (i := 3) (v := ?_) rfl (by kernel_rfl) (by kernel_rfl) (by kernel_rfl) (fun _ _ _ h => h) (Or.inl ⟨by kernel_rfl, ?_⟩) hHeld ?_
  rotate_left
  · intro w' hSw; (try dsimp only at hSw); go_simp
    all_goals (with_reducible rfl)
  simp only [Act.put, List.getElem_toArray, List.getElem_cons_zero, List.getElem_cons_succ, List.setIfInBounds_toArray, List.set_cons_zero, List.set_cons_succ]
  refine wpAnyH_take (i := 4) (v := ?_) rfl (by kernel_rfl) (by kernel_rfl) (by kernel_rfl) (fun _ _ _ h => h) (Or.inl ⟨by kernel_rfl, ?_⟩) hHeld ?_
  rotate_left
  · intro w' hSw; (try dsimp only at hSw); go_simp
    all_goals (with_reducible rfl)
  simp only [Act.put, List.getElem_toArray, List.getElem_cons_zero, List.getElem_cons_succ, List.setIfInBounds_toArray, List.set_cons_zero, List.set_cons_succ]
  refine wpAnyH_take (i := 5) (v := ?_) rfl (by kernel_rfl) (by kernel_rfl) (by kernel_rfl) (fun _ _ _ h => h) (Or.inl ⟨by kernel_rfl, ?_⟩) hHeld ?_
  rotate_left
  · intro w' hSw; (try dsimp only at hSw); go_simp
    all_goals (with_reducible rfl)
  simp only [Act.put, List.getElem_toArray, List.getElem_cons_zero, List.getElem_cons_succ, List.setIfInBounds_toArray, List.set_cons_zero, List.set_cons_succ]
  refine wpAnyH_take (i := 7) (v := ?_) rfl (by kernel_rfl) (by kernel_rfl) (by kernel_rfl) (fun _ _ _ h => h) (Or.inl ⟨by kernel_rfl, ?_⟩) hHeld ?_
  rotate_left
  · intro w' hSw; (try dsimp only at hSw); go_simp
    all_goals (with_reducible rfl)
  simp only [Act.put, List.getElem_toArray, List.getElem_cons_zero, List.getElem_cons_succ, List.setIfInBounds_toArray, List.set_cons_zero, List.set_cons_succ]
  refine wpAnyH_take (i := 8) (v := ?_) rfl (by kernel_rfl) (by kernel_rfl) (by kernel_rfl) (fun _ _ _ h => h) (Or.inl ⟨by kernel_rfl, ?_⟩) hHeld ?_
  rotate_left
  · intro w' hSw; (try dsimp only at hSw); go_simp
    all_goals (with_reducible rfl)
  simp only [Act.put, List.getElem_toArray, List.getElem_cons_zero, List.getElem_cons_succ, List.setIfInBounds_toArray, List.set_cons_zero, List.set_cons_succ]
  refine wpAnyH_take (i := 9) (v := ?_) rfl (by kernel_rfl) (by kernel_rfl) (by kernel_rfl) (fun _ _ _ h => h) (Or.inl ⟨by kernel_rfl, ?_⟩) hHeld ?_
  rotate_left
  · intro w' hSw; (try dsimp only at hSw); go_simp
    all_goals (with_reducible rfl)
  simp only [Act.put, List.getElem_toArray, List.getElem_cons_zero, List.getElem_cons_succ, List.setIfInBounds_toArray, List.set_cons_zero, List.set_cons_succ]
  refine wpAnyH_take (i := 10) (v := ?_) rfl (by kernel_rfl) (by kernel_rfl) (by kernel_rfl) (fun _ _ _ h => h) (Or.inl ⟨by kernel_rfl, ?_⟩) hHeld ?_
  rotate_left
  · intro w' hSw; (try dsimp only at hSw); go_simp
    all_goals (with_reducible rfl)
  simp only [Act.put, List.getElem_toArray, List.getElem_cons_zero, List.getElem_cons_succ, List.setIfInBounds_toArray, List.set_cons_zero, List.set_cons_succ]
  refine wpAnyH_ready (rs := [6]) (by kernel_rfl) (by simp) ?_
  refine AllReadyH.cons (o := _) rfl (fun K hK => ?_) AllReadyH.nil
  go_simp
  refine (hci.out _).mono ?_
  rintro e w' ⟨rfl, rfl⟩
  go_wp2_with fail
  refine hK.out _ _ ?_ (fun hHeld => ?_)
  · exact hall.out _ Step.drew
  clear hK K
  refine wpAnyH_ready (rs := [11]) (by kernel_rfl) (by simp) ?_
  refine AllReadyH.cons (o := _) rfl (fun K hK => ?_) AllReadyH.nil
  go_simp
  refine (hcmpA.out _ (hst1H.out.tail Step.drew)).mono ?_
  rintro e w' ⟨rfl, rfl⟩
  go_wp2_with fail
  refine hK.out _ _ ?_ (fun hHeld => ?_)
  · exact hall.out _ Step.drew
  clear hK K
  refine wpAnyH_ready (rs := [12]) (by kernel_rfl) (by simp) ?_
  refine AllReadyH.cons (o := _) rfl (fun K hK => ?_) AllReadyH.nil
  go_simp
  obtain ⟨W2, hW2⟩ : ∃ W2, W2 = (W1.alloc (.cells #[.int .i64 T, .int .i64 C] 3)).drew := ⟨_, rfl⟩
  rw [← hW2]
  have hs12 : Step [] id id W1 W2 := by rw [hW2]; exact (Step.alloc _).tail Step.drew
  have hD : W2.heap[W1.heap.size]? = some (.cells #[.int .i64 T, .int .i64 C] 3 (0, 0)) := by rw [hW2]; exact heap_alloc_new W1 _
  have hor := Lib.hid (cmp_or (w := W2) (B := W1.heap.size) (n := 2) (l := [T, C]) rfl (by omega) (fun j hj => by
    match j, hj with
    | 0, _ => exact cell_blk hD rfl
    | 1, _ => exact cell_blk hD rfl))
  have hs12H := Lib.hid hs12
  clear hW2 hs12 hD
  refine hK.out _ _ ?_ (fun hHeld => ?_)
  · exact hall.out _ hs12H.out
  clear hK K
  refine wpAnyH_ready (rs := [13]) (by kernel_rfl) (by simp) ?_
  refine AllReadyH.cons (o := _) rfl (fun K hK => ?_) AllReadyH.nil
  go_simp
  refine hor.out.mono ?_
  rintro e w' ⟨rfl, rfl⟩
  go_wp2_with fail
  refine hK.out _ _ ?_ (fun hHeld => ?_)
  · exact hall.out _ hs12H.out
  clear hK K
  refine wpAnyH_take (i := 14) (v := ?_) rfl (by kernel_rfl) (by kernel_rfl) (by kernel_rfl) (fun _ _ _ h => h) (Or.inl ⟨by kernel_rfl, ?_⟩) hHeld ?_
  rotate_left
  · intro w' hSw; (try dsimp only at hSw); go_simp
    all_goals (with_reducible rfl)
  simp only [Act.put, List.getElem_toArray, List.getElem_cons_zero, List.getElem_cons_succ, List.setIfInBounds_toArray, List.set_cons_zero, List.set_cons_succ]
  refine wpAnyH_done (by kernel_rfl) ?_ _
  go_wp2_with fail
  go_ret
  exact ⟨rfl, hst1H.out.tail hs12H.out⟩
set_option maxRecDepth 100000 in
set_option maxHeartbeats 4000000 in
/-- Two of one rank: what their kind's function says. -/
theorem or_same {w : World} {k1 n1 k2 n2 C : Int} {s1 b1 f1 l1 s2 b2 f2 l2 : Value} {F : FuncId} (hcls : clsOf k1 = clsOf k2) (hw : wayOf k1 = F) (hcf : ∀ (args : Array Value) (w : World), (callFunc F args).run Tryd.prog w = .ok (.enter F args) w)
    (hf : ∀ W, Step [] id id w W → Calls Tryd.prog F #[.agg #[.int .i64 k1, .int .i64 n1, s1, b1, f1, l1], .agg #[.int .i64 k2, .int .i64 n2, s2, b2, f2, l2]] W fun e w' => e = .returned (.int .i64 C) ∧ Step [] id id W w') :
    Calls Tryd.prog 33 #[.agg #[.int .i64 k1, .int .i64 n1, s1, b1, f1, l1], .agg #[.int .i64 k2, .int .i64 n2, s2, b2, f2, l2]] w fun e w' => e = .returned (.int .i64 C) ∧ Step [] id id w w' := by
  have hcl := Lib.hid (fun k W => or_class k W)
  have hci := Lib.hid (fun a b W => cmp_int a b W)
  obtain ⟨c1, hc1⟩ : ∃ c, c = clsOf k1 := ⟨_, rfl⟩
  have hc2 : c1 = clsOf k2 := by rw [hc1, hcls]
  have hc1H := Lib.hid hc1
  have hc2H := Lib.hid hc2
  have hfH := Lib.hid hf
  have hwy := Lib.hid (fun W => or_way k1 W)
  rw [hw] at hwy
  clear hc1 hc2 hf hcls hw
  go_enter Tryd.func33, Tryd.ntmps33
  go_wp2_with fail
  go_quiet ((first | (go_at_call 47; exact quietL (hcl.out _ _)) | (go_at_call 46; exact quietL (hci.out _ _ _))))
  rw [← hc1H.out, ← hc2H.out, sgnI_self]
  obtain ⟨W3, hW3⟩ : ∃ W3, W3 = (((w.alloc (.cells #[.int .i64 k1, .int .i64 n1, s1, b1, f1, l1] 32)).alloc (.cells #[.int .i64 k2, .int .i64 n2, s2, b2, f2, l2] 32)).drewN nq) := ⟨_, rfl⟩
  rw [← hW3]
  have hA : Step [] id id w W3 := by rw [hW3]; exact ((Step.alloc _).tail (Step.alloc _)).tail (Step.drewN _ _)
  have hb0 : W3.heap[w.heap.size]? = some (.cells #[.int .i64 k1, .int .i64 n1, s1, b1, f1, l1] 32 (0, 0)) := by rw [hW3]; exact drewN_blk (alloc_old (heap_alloc_new w _))
  have hb1 : W3.heap[w.heap.size + 1]? = some (.cells #[.int .i64 k2, .int .i64 n2, s2, b2, f2, l2] 32 (0, 0)) := by
    rw [hW3]; refine drewN_blk ?_
    have := heap_alloc_new (w.alloc (.cells #[.int .i64 k1, .int .i64 n1, s1, b1, f1, l1] 32)) (.cells #[.int .i64 k2, .int .i64 n2, s2, b2, f2, l2] 32)
    rwa [show (w.alloc (.cells #[.int .i64 k1, .int .i64 n1, s1, b1, f1, l1] 32)).heap.size = w.heap.size + 1 by simp] at this
  obtain ⟨a0, a1, a2, a3, a4, a5⟩ := cells6A hb0
  obtain ⟨d0, d1, d2, d3, d4, d5⟩ := cells6A hb1
  have lt0 := lt_of_block hb0
  have lt1 := lt_of_block hb1
  have hAH := Lib.hid hA
  clear hW3 hA hb0 hb1
  go_wp2_with fail
  refine (hwy.out _).mono ?_
  rintro e w' ⟨rfl, rfl⟩
  go_wp2_with fail
  refine (hfH.out _ hAH.out).mono ?_
  rintro e w5 ⟨rfl, hs5⟩
  have hs5H := Lib.hid (hAH.out.tail hs5)
  clear hs5
  go_wp2_with fail
  go_ret
  exact ⟨rfl, hs5H.out⟩
theorem cmpH_bytes {y z : Val} (hy : y.kind = 8) (hz : z.kind = 8) : CmpH y z := by
  intro Q Q' W cs ds hvy hvz
  have hv : cmpV y z = orI (sgnI y.b.length z.b.length) (cmpB y.b z.b) := by
    cases y with
    | mk k n s b f l =>
      cases z with
      | mk k2 n2 s2 b2 f2 l2 =>
        simp only [Val.kind] at hy hz
        subst hy hz
        simp [cmpV, sgnI_self, orI, Val.kind, Val.b]
        by_cases h : sgnI (b.length : Int) (b2.length : Int) = 0 <;> simp [h]
  rw [hv]
  have hvy' := hvy
  have hvz' := hvz
  obtain ⟨s0, ba, bn, bc, fa, fn, fc, la, ln, lc, hcs, -⟩ := hvy.six
  obtain ⟨s1, ba1, bn1, bc1, fa1, fn1, fc1, la1, ln1, lc1, hds, -⟩ := hvz.six
  rw [hcs, hds]
  refine or_same (F := 74) (by rw [hy, hz]) (by rw [hy]; rfl) (fun _ _ => by kernel_rfl) (fun W' hs => ?_)
  rw [← hcs, ← hds]
  exact or_bytes (hvy'.low.onto hs) (hvz'.low.onto hs)
end Go.Proofs.YtembpajlllnncaaDoor
