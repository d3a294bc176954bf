/- bson's Same: itself. -/
import Derived.Test.YtbkmnhogfegmcaaDoorBsC2
import Derived.Test.YtbkmnhogfegmcaaDoorShelf
set_option linter.unusedVariables false
set_option linter.unusedSimpArgs false
namespace Go.Proofs.YtbkmnhogfegmcaaDoor
open Go.RowKit

set_option maxRecDepth 100000 in
set_option maxHeartbeats 8000000 in
theorem bsame_step (N : Nat) (ih : SameC 20 N) : SameC 20 (N + 1) := by
  intro P x y cs ds w hN hx hy
  obtain ⟨bv1, fa1, fc1, la1, lc1, hcs1, hb1, ⟨hfc1, hlc1, hfn1, hln1⟩, -, ⟨hs21, hb21, hf21, hl21⟩, hf1, hl1⟩ := hx.cells
  obtain ⟨ba1, bc1, rfl⟩ := hb1.shape
  obtain ⟨bv2, fa2, fc2, la2, lc2, hcs2, hb2, ⟨hfc2, hlc2, hfn2, hln2⟩, -, ⟨hs22, hb22, hf22, hl22⟩, hf2, hl2⟩ := hy.cells
  obtain ⟨ba2, bc2, rfl⟩ := hb2.shape
  have hfs : ∀ j (h : j < x.f.length), SizeOf.sizeOf x.f[j].2 < N := fun j h => by cases x; exact Nat.lt_of_lt_of_le (f_size h) (Nat.le_of_lt_succ hN)
  have hls : ∀ j (h : j < x.l.length), SizeOf.sizeOf x.l[j] < N := fun j h => by cases x; exact Nat.lt_of_lt_of_le (l_size h) (Nat.le_of_lt_succ hN)
  have hve := val_eq x y
  have hf1H := Lib.hid hf1
  have hl1H := Lib.hid hl1
  have hf2H := Lib.hid hf2
  have hl2H := Lib.hid hl2
  have hfsH := Lib.hid hfs
  have hlsH := Lib.hid hls
  obtain ⟨n1, hn1⟩ : ∃ k, k = x.num := ⟨_, rfl⟩
  obtain ⟨k1, hk1⟩ : ∃ k, k = x.kind := ⟨_, rfl⟩
  obtain ⟨S1, hS1⟩ : ∃ k, k = strOf x.s := ⟨_, rfl⟩
  obtain ⟨bn1, hbn1⟩ : ∃ k, k = x.b.length := ⟨_, rfl⟩
  obtain ⟨ln1, hlnn1⟩ : ∃ k, k = x.l.length := ⟨_, rfl⟩
  obtain ⟨fn1, hfnn1⟩ : ∃ k, k = x.f.length := ⟨_, rfl⟩
  obtain ⟨n2, hn2⟩ : ∃ k, k = y.num := ⟨_, rfl⟩
  obtain ⟨k2, hk2⟩ : ∃ k, k = y.kind := ⟨_, rfl⟩
  obtain ⟨S2, hS2⟩ : ∃ k, k = strOf y.s := ⟨_, rfl⟩
  obtain ⟨bn2, hbn2⟩ : ∃ k, k = y.b.length := ⟨_, rfl⟩
  obtain ⟨ln2, hlnn2⟩ : ∃ k, k = y.l.length := ⟨_, rfl⟩
  obtain ⟨fn2, hfnn2⟩ : ∃ k, k = y.f.length := ⟨_, rfl⟩
  rw [← hk1, ← hn1, ← hS1, ← hbn1, ← hlnn1, ← hfnn1] at hcs1
  rw [← hk2, ← hn2, ← hS2, ← hbn2, ← hlnn2, ← hfnn2] at hcs2
  rw [← hlnn1] at hl21
  rw [← hfnn1] at hf21
  rw [← hlnn2] at hl22
  rw [← hfnn2] at hf22
  rw [← hk1, ← hk2, ← hn1, ← hn2, ← strOf_eq (l := x.s), ← hS1, ← hS2] at hve
  rw [← hbn1] at hb1
  rw [← hbn2] at hb2
  subst hcs1 hcs2
  obtain ⟨W1, hW1⟩ : ∃ W1, W1 = w.alloc (.cells #[.int .i64 k1, .int .i64 n1, .string S1, .slice ba1 bn1 bc1, .slice fa1 fn1 fc1, .slice la1 ln1 lc1] 27) := ⟨_, rfl⟩
  obtain ⟨W2, hW2⟩ : ∃ W2, W2 = W1.alloc (.cells #[.int .i64 k2, .int .i64 n2, .string S2, .slice ba2 bn2 bc2, .slice fa2 fn2 fc2, .slice la2 ln2 lc2] 27) := ⟨_, rfl⟩
  have z1 : W1.heap.size = w.heap.size + 1 := by rw [hW1]; simp
  have hs2 : Step [] id id w W2 := by rw [hW2, hW1]; exact (Step.alloc _).tail (Step.alloc _)
  have hV1 := Lib.hid (show W2.heap[w.heap.size]? = some (.cells #[.int .i64 k1, .int .i64 n1, .string S1, .slice ba1 bn1 bc1, .slice fa1 fn1 fc1, .slice la1 ln1 lc1] 27 (0, 0)) by rw [hW2]; refine alloc_old ?_; rw [hW1]; exact heap_alloc_new w _)
  have hV2 := Lib.hid (show W2.heap[w.heap.size + 1]? = some (.cells #[.int .i64 k2, .int .i64 n2, .string S2, .slice ba2 bn2 bc2, .slice fa2 fn2 fc2, .slice la2 ln2 lc2] 27 (0, 0)) by rw [hW2, ← z1]; exact heap_alloc_new W1 _)
  have hs2H := Lib.hid hs2
  have hln1H := Lib.hid hlnn1
  have hfn1H := Lib.hid hfnn1
  have hln2H := Lib.hid hlnn2
  have hfn2H := Lib.hid hfnn2
  have hveH := Lib.hid hve
  obtain ⟨B1, hB1⟩ : ∃ B, B = strOf x.b := ⟨_, rfl⟩
  obtain ⟨B2, hB2⟩ : ∃ B, B = strOf y.b := ⟨_, rfl⟩
  have hBe := Lib.hid (show B1 = B2 ↔ x.b = y.b by rw [hB1, hB2]; exact strOf_eq)
  have hcv1 := (hb1.keep (P2 := P) (w' := W2) (fun _ h => h) (fun k hP hk => (hs2.keep k hk (by simp)).2)).str
  have hcv2 := (hb2.keep (P2 := P) (w' := W2) (fun _ h => h) (fun k hP hk => (hs2.keep k hk (by simp)).2)).str
  rw [← hB1] at hcv1
  rw [← hB2] at hcv2
  have hcv1H := Lib.hid hcv1
  have hcv2H := Lib.hid hcv2
  have hb1H := Lib.hid hb1
  have hb2H := Lib.hid hb2
  rw [hW2, hW1] at hcv1 hcv2
  have hW1H := Lib.hid hW1
  have hW2H := Lib.hid hW2
  clear hx hy hn1 hk1 hS1 hbn1 hlnn1 hfnn1 hn2 hk2 hS2 hbn2 hlnn2 hfnn2 hs2 hW1 hW2 hf1 hl1 hf2 hl2 hfs hls hb1 hb2 hfc1 hlc1 hfn1 hln1 hfc2 hlc2 hfn2 hln2 hs21 hb21 hs22 hb22 hve hB1 hB2 z1
  go_enter Tryd.func20, Tryd.ntmps20
  by_cases e1 : k1 = k2
  rotate_left
  · have hd : (k1 == k2) = false := by rw [beq_eq_false_iff_ne]; exact e1
    go_wp2_with fail
    go_ret
    refine ⟨false, rfl, by simp; intro h; exact e1 (hveH.out.1 h).1, ?_⟩
    rw [← hW1H.out, ← hW2H.out]; exact hs2H.out
  subst e1
  by_cases e2 : n1 = n2
  rotate_left
  · have hd : (n1 == n2) = false := by rw [beq_eq_false_iff_ne]; exact e2
    go_wp2_with fail
    go_ret
    refine ⟨false, rfl, by simp; intro h; exact e2 (hveH.out.1 h).2.1, ?_⟩
    rw [← hW1H.out, ← hW2H.out]; exact hs2H.out
  subst e2
  by_cases e3 : S1 = S2
  rotate_left
  · have hd : (S1.toList == S2.toList) = false := by rw [str_cmp]; exact decide_eq_false e3
    go_wp2_with fail
    go_ret
    refine ⟨false, rfl, by simp; intro h; exact e3 (hveH.out.1 h).2.2.1, ?_⟩
    rw [← hW1H.out, ← hW2H.out]; exact hs2H.out
  subst e3
  by_cases e4 : B1 = B2
  rotate_left
  · have hd : (B1.toList == B2.toList) = false := by rw [str_cmp]; exact decide_eq_false e4
    go_wp2_with (go_at_call 40; refine (Tryd.bytes_Equal_strs _ _ B1 B2 _ hcv1 hcv2).mono ?_; rintro e w3 ⟨rfl, rfl⟩; rw [hd])
    go_ret
    refine ⟨false, rfl, by simp; intro h; exact e4 (hBe.out.2 (hveH.out.1 h).2.2.2.1), ?_⟩
    rw [← hW1H.out, ← hW2H.out]; exact hs2H.out
  subst e4
  have hve2 := Lib.hid (show x = y ↔ x.f = y.f ∧ x.l = y.l by rw [hveH.out]; simp [hBe.out.1 rfl])
  have hd : (B1.toList == B1.toList) = true := by simp
  have hef := Lib.hid (eqf_step N ih (x := x) (y := y) (w := W2) (fa1 := fa1) (fa2 := fa2) (fc1 := fc1) (fc2 := fc2) hfsH.out (by rw [← hfn1H.out]; exact hf21) (by rw [← hfn2H.out]; exact hf22) (hf1H.out.keep (P2 := P) (fun _ h => h) (fun k hP hk => (hs2H.out.keep k hk (by simp)).2) _ _ _) (hf2H.out.keep (P2 := P) (fun _ h => h) (fun k hP hk => (hs2H.out.keep k hk (by simp)).2) _ _ _))
  rw [← hfn1H.out, ← hfn2H.out] at hef
  go_wp2_with (go_at_call 40; refine (Tryd.bytes_Equal_strs _ _ B1 B1 _ hcv1 hcv2).mono ?_; rintro e w3 ⟨rfl, rfl⟩; rw [hd])
  rw [← hW1H.out, ← hW2H.out]
  clear hcv1 hcv2
  refine hef.out.mono ?_
  rintro e w3 ⟨r3, rfl, hr3, hs3⟩
  have hs3H := Lib.hid hs3
  have hr3H := Lib.hid hr3
  have hVr1 := hs3.at hV1.out (by simp)
  have hVr2 := hs3.at hV2.out (by simp)
  have v15 := cell_blk hVr1 (i := 5) rfl
  have v25 := cell_blk hVr2 (i := 5) rfl
  clear hs3 hr3 hVr1 hVr2
  cases r3
  · go_wp2_with fail
    go_ret
    refine ⟨false, rfl, ?_, hs2H.out.tail hs3H.out⟩
    simp only [Bool.false_eq_true, false_iff]
    rw [hve2.out]
    intro h
    exact absurd (hr3H.out.2 h.1) (by simp)
  · have hel := Lib.hid (eqv_step N ih (x := x) (y := y) (w := w3) (la1 := la1) (la2 := la2) (lc1 := lc1) (lc2 := lc2) hlsH.out (by rw [← hln1H.out]; exact hl21) (by rw [← hln2H.out]; exact hl22) (hl1H.out.keep (P2 := P) (fun _ h => h) (fun k hP hk => ((hs2H.out.tail hs3H.out).keep k hk (by simp)).2) _ _ _) (hl2H.out.keep (P2 := P) (fun _ h => h) (fun k hP hk => ((hs2H.out.tail hs3H.out).keep k hk (by simp)).2) _ _ _))
    rw [← hln1H.out, ← hln2H.out] at hel
    go_wp2_with fail
    refine hel.out.mono ?_
    rintro e w4 ⟨r4, rfl, hr4, hs4⟩
    have hs4H := Lib.hid hs4
    have hr4H := Lib.hid hr4
    clear hs4 hr4 v15 v25
    go_wp2_with fail
    go_ret
    refine ⟨r4, rfl, ?_, (hs2H.out.tail hs3H.out).tail hs4H.out⟩
    rw [hr4H.out, hve2.out, hr3H.out.1 (by simp)]
    simp
theorem bsame_all : ∀ N, SameC 20 N
  | 0 => fun _ x _ _ _ _ hN => absurd hN (Nat.not_lt_zero _)
  | N + 1 => bsame_step N (bsame_all N)
theorem bs_same {P : Nat → Prop} {x y : Val} {cs ds : List Value} {w : World} (hx : VIs P w x cs) (hy : VIs P w y ds) : Calls Tryd.prog 20 #[.agg cs.toArray, .agg ds.toArray] w (SameB x y w) :=
  bsame_all (SizeOf.sizeOf x + 1) P x y cs ds w (Nat.lt_succ_self _) hx hy
end Go.Proofs.YtbkmnhogfegmcaaDoor
