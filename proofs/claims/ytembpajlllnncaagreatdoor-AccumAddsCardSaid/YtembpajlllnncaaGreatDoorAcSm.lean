/- Two values are alike: the reference's Same. -/
import Derived.Test.YtembpajlllnncaaGreatDoorAcK1
import Derived.Laws.IdiomStrings
set_option linter.unusedVariables false
set_option linter.unusedSimpArgs false
namespace Go.Proofs.YtembpajlllnncaaGreatDoor
open Go.RowKit

/-- Same's answer. -/
def SameB (x y : Val) (w : World) (e : Ending) (w' : World) : Prop := ∃ r : Bool, e = .returned (.bool r) ∧ (r = true ↔ x = y) ∧ Step [] id id w w'
def SameC (F : FuncId) (N : Nat) : Prop := ∀ (P : Nat → Prop) (x y : Val) (cs ds : List Value) (w : World), SizeOf.sizeOf x < N → VIs P w x cs → VIs P w y ds → Calls Tryz.prog F #[.agg cs.toArray, .agg ds.toArray] w (SameB x y w)
theorem take_neq {α : Type} {a b : List α} {j : Nat} (h1 : j < a.length) (h2 : j < b.length) (h : a[j] ≠ b[j]) : a ≠ b := fun e => h (by subst e; rfl)

set_option maxRecDepth 100000 in
set_option maxHeartbeats 8000000 in
theorem rsame_step (N : Nat) (ih : SameC 10 N) : SameC 10 (N + 1) := by
 intro P x y cs ds w hN hx hy
 obtain ⟨bv1, fa1, fc1, la1, lc1, hcs1, hb1, ⟨hfc1, hlc1, hfn1, hln1⟩, -, ⟨hs21, hb21, hf21, hl21⟩, hf1, hl1⟩ := hx.cells
 obtain ⟨ba1, bc1, rfl⟩ := hb1.shape
 obtain ⟨bv2, fa2, fc2, la2, lc2, hcs2, hb2, ⟨hfc2, hlc2, hfn2, hln2⟩, -, ⟨hs22, hb22, hf22, hl22⟩, hf2, hl2⟩ := hy.cells
 obtain ⟨ba2, bc2, rfl⟩ := hb2.shape
 have hfs : ∀ j (h : j < x.f.length), SizeOf.sizeOf x.f[j].2 < N := fun j h => by cases x; exact Nat.lt_of_lt_of_le (f_size h) (Nat.le_of_lt_succ hN)
 have hls : ∀ j (h : j < x.l.length), SizeOf.sizeOf x.l[j] < N := fun j h => by cases x; exact Nat.lt_of_lt_of_le (l_size h) (Nat.le_of_lt_succ hN)
 have hve := val_eq x y
 have hf1H := Lib.hid hf1
 have hl1H := Lib.hid hl1
 have hf2H := Lib.hid hf2
 have hl2H := Lib.hid hl2
 have hfsH := Lib.hid hfs
 have hlsH := Lib.hid hls
 obtain ⟨n1, hn1⟩ : ∃ k, k = x.num := ⟨_, rfl⟩
 obtain ⟨k1, hk1⟩ : ∃ k, k = x.kind := ⟨_, rfl⟩
 obtain ⟨S1, hS1⟩ : ∃ k, k = strOf x.s := ⟨_, rfl⟩
 obtain ⟨bn1, hbn1⟩ : ∃ k, k = x.b.length := ⟨_, rfl⟩
 obtain ⟨ln1, hlnn1⟩ : ∃ k, k = x.l.length := ⟨_, rfl⟩
 obtain ⟨fn1, hfnn1⟩ : ∃ k, k = x.f.length := ⟨_, rfl⟩
 obtain ⟨n2, hn2⟩ : ∃ k, k = y.num := ⟨_, rfl⟩
 obtain ⟨k2, hk2⟩ : ∃ k, k = y.kind := ⟨_, rfl⟩
 obtain ⟨S2, hS2⟩ : ∃ k, k = strOf y.s := ⟨_, rfl⟩
 obtain ⟨bn2, hbn2⟩ : ∃ k, k = y.b.length := ⟨_, rfl⟩
 obtain ⟨ln2, hlnn2⟩ : ∃ k, k = y.l.length := ⟨_, rfl⟩
 obtain ⟨fn2, hfnn2⟩ : ∃ k, k = y.f.length := ⟨_, rfl⟩
 rw [← hk1, ← hn1, ← hS1, ← hbn1, ← hlnn1, ← hfnn1] at hcs1
 rw [← hk2, ← hn2, ← hS2, ← hbn2, ← hlnn2, ← hfnn2] at hcs2
 rw [← hlnn1] at hl21
 rw [← hfnn1] at hf21
 rw [← hlnn2] at hl22
 rw [← hfnn2] at hf22
 rw [← hk1, ← hk2, ← hn1, ← hn2, ← strOf_eq (l := x.s), ← hS1, ← hS2] at hve
 rw [← hbn1] at hb1
 rw [← hbn2] at hb2
 subst hcs1 hcs2
 obtain ⟨W1, hW1⟩ : ∃ W1, W1 = w.alloc (.cells #[.int .i64 k1, .int .i64 n1, .string S1, .slice ba1 bn1 bc1, .slice fa1 fn1 fc1, .slice la1 ln1 lc1] 35) := ⟨_, rfl⟩
 obtain ⟨W2, hW2⟩ : ∃ W2, W2 = W1.alloc (.cells #[.int .i64 k2, .int .i64 n2, .string S2, .slice ba2 bn2 bc2, .slice fa2 fn2 fc2, .slice la2 ln2 lc2] 35) := ⟨_, rfl⟩
 have z1 : W1.heap.size = w.heap.size + 1 := by rw [hW1]; simp
 have hs2 : Step [] id id w W2 := by rw [hW2, hW1]; exact (Step.alloc _).tail (Step.alloc _)
 have hV1 := Lib.hid (show W2.heap[w.heap.size]? = some (.cells #[.int .i64 k1, .int .i64 n1, .string S1, .slice ba1 bn1 bc1, .slice fa1 fn1 fc1, .slice la1 ln1 lc1] 35 (0, 0)) by rw [hW2]; refine alloc_old ?_; rw [hW1]; exact heap_alloc_new w _)
 have hV2 := Lib.hid (show W2.heap[w.heap.size + 1]? = some (.cells #[.int .i64 k2, .int .i64 n2, .string S2, .slice ba2 bn2 bc2, .slice fa2 fn2 fc2, .slice la2 ln2 lc2] 35 (0, 0)) by rw [hW2, ← z1]; exact heap_alloc_new W1 _)
 have hs2H := Lib.hid hs2
 have hln1H := Lib.hid hlnn1
 have hfn1H := Lib.hid hfnn1
 have hln2H := Lib.hid hlnn2
 have hfn2H := Lib.hid hfnn2
 have hveH := Lib.hid hve
 obtain ⟨B1, hB1⟩ : ∃ B, B = strOf x.b := ⟨_, rfl⟩
 obtain ⟨B2, hB2⟩ : ∃ B, B = strOf y.b := ⟨_, rfl⟩
 have hBe := Lib.hid (show B1 = B2 ↔ x.b = y.b by rw [hB1, hB2]; exact strOf_eq)
 have hcv1 := (hb1.keep (P2 := P) (w' := W2) (fun _ h => h) (fun k hP hk => (hs2.keep k hk (by simp)).2)).str
 have hcv2 := (hb2.keep (P2 := P) (w' := W2) (fun _ h => h) (fun k hP hk => (hs2.keep k hk (by simp)).2)).str
 rw [← hB1] at hcv1
 rw [← hB2] at hcv2
 have hcv1H := Lib.hid hcv1
 have hcv2H := Lib.hid hcv2
 have hb1H := Lib.hid hb1
 have hb2H := Lib.hid hb2
 rw [hW2, hW1] at hcv1 hcv2
 have hW1H := Lib.hid hW1
 have hW2H := Lib.hid hW2
 clear hx hy hn1 hk1 hS1 hbn1 hlnn1 hfnn1 hn2 hk2 hS2 hbn2 hlnn2 hfnn2 hs2 hW1 hW2 hf1 hl1 hf2 hl2 hfs hls hb1 hb2 hfc1 hlc1 hfn1 hln1 hfc2 hlc2 hfn2 hln2 hs21 hb21 hs22 hb22 hve hB1 hB2 z1
 go_enter Tryz.func10, Tryz.ntmps10
 by_cases e1 : k1 = k2
 rotate_left
 ·have hd : (k1 != k2) = true := by rw [bne_iff_ne]; exact e1
  go_wp2_with fail
  go_ret
  refine ⟨false, rfl, by simp; intro h; exact e1 (hveH.out.1 h).1, ?_⟩
  rw [← hW1H.out, ← hW2H.out]; exact hs2H.out
 subst e1
 by_cases e2 : n1 = n2
 rotate_left
 ·have hd : (n1 != n2) = true := by rw [bne_iff_ne]; exact e2
  go_wp2_with fail
  go_ret
  refine ⟨false, rfl, by simp; intro h; exact e2 (hveH.out.1 h).2.1, ?_⟩
  rw [← hW1H.out, ← hW2H.out]; exact hs2H.out
 subst e2
 by_cases e3 : S1 = S2
 rotate_left
 ·have hd : (S1.toList == S2.toList) = false := by rw [str_cmp]; exact decide_eq_false e3
  go_wp2_with fail
  go_ret
  refine ⟨false, rfl, by simp; intro h; exact e3 (hveH.out.1 h).2.2.1, ?_⟩
  rw [← hW1H.out, ← hW2H.out]; exact hs2H.out
 subst e3
 by_cases e4 : B1 = B2
 rotate_left
 ·have hd : (B1.toList == B2.toList) = false := by rw [str_cmp]; exact decide_eq_false e4
  go_wp2_with fail
  go_ret
  refine ⟨false, rfl, by simp; intro h; exact e4 (hBe.out.2 (hveH.out.1 h).2.2.2.1), ?_⟩
  rw [← hW1H.out, ← hW2H.out]; exact hs2H.out
 subst e4
 by_cases e5 : fn1 = fn2
 rotate_left
 ·have hd : ((fn1 : Int) != (fn2 : Int)) = true := by rw [bne_iff_ne]; omega
  go_wp2_with fail
  go_ret
  refine ⟨false, rfl, by simp; intro h; exact e5 (by rw [hfn1H.out, hfn2H.out, (hveH.out.1 h).2.2.2.2.1]), ?_⟩
  rw [← hW1H.out, ← hW2H.out]; exact hs2H.out
 subst e5
 by_cases e6 : ln1 = ln2
 rotate_left
 ·have hd : ((ln1 : Int) != (ln2 : Int)) = true := by rw [bne_iff_ne]; omega
  go_wp2_with fail
  go_ret
  refine ⟨false, rfl, by simp; intro h; exact e6 (by rw [hln1H.out, hln2H.out, (hveH.out.1 h).2.2.2.2.2]), ?_⟩
  rw [← hW1H.out, ← hW2H.out]; exact hs2H.out
 subst e6
 have hve2 := Lib.hid (show x = y ↔ x.f = y.f ∧ x.l = y.l by rw [hveH.out]; simp [hBe.out.1 rfl])
 go_wp2_with fail
 rw [← hW1H.out, ← hW2H.out]
 clear hcv1 hcv2
 go_loopw [5] (fun i wr => ∃ (j : Nat), i = .int .i64 j ∧ j ≤ fn1 ∧ Step [] id id W2 wr ∧ x.f.take j = y.f.take j) (fun i _ => fn1 - (intOf i).toNat)
 case atStart => exact ⟨0, rfl, Nat.zero_le _, Step.refl _ _ _, rfl⟩
 case round =>
  obtain ⟨j, rfl, hj, hst, htk⟩ := hrel
  have hVr1 := hst.at hV1.out (by simp)
  have hVr2 := hst.at hV2.out (by simp)
  have v14 := cell_blk hVr1 (i := 4) rfl
  have v15 := cell_blk hVr1 (i := 5) rfl
  have v24 := cell_blk hVr2 (i := 4) rfl
  have v25 := cell_blk hVr2 (i := 5) rfl
  have hV1l := lt_of_block hVr1
  have hV2l := lt_of_block hVr2
  clear hVr1 hVr2
  have htkH := Lib.hid htk
  clear htk
  by_cases hjl : j < fn1
  ·have hjl1 : (j : Int) < (fn1 : Int) := by omega
   have hj0 : (0 : Int) ≤ (j : Int) := by omega
   have hfw1 := FIs.keep (P2 := P) (fun _ h => h) (fun k hP hk => (((hs2H.out.tail hst).keep k hk (by simp)).2)) x.f fa1 0 hf1H.out
   obtain ⟨b1, o1, cs, hae, hPb, hnl, hrng, hxj1⟩ := hfw1.get (j := j) (by rw [← hfn1H.out]; omega)
   subst hae
   obtain ⟨s1, bb1, bbn1, bbc1, ff1, ffn1, ffc1, ll1, lln1, llc1, hcs, -⟩ := hxj1.six
   obtain ⟨y1, hy1⟩ : ∃ z, z = (x.f[j]'(by rw [← hfn1H.out]; omega)).2 := ⟨_, rfl⟩
   obtain ⟨nm1, hnm1⟩ : ∃ z, z = (x.f[j]'(by rw [← hfn1H.out]; omega)).1 := ⟨_, rfl⟩
   have hpair1 := Lib.hid (show (x.f[j]'(by rw [← hfn1H.out]; omega)) = (nm1, y1) by rw [hy1, hnm1])
   rw [← hy1] at hxj1 hcs
   rw [← hnm1] at hrng
   obtain ⟨kk1, hkk⟩ : ∃ k, k = y1.kind := ⟨_, rfl⟩
   obtain ⟨nn1, hnn⟩ : ∃ k, k = y1.num := ⟨_, rfl⟩
   obtain ⟨N1, hN1⟩ : ∃ k, k = strOf nm1 := ⟨_, rfl⟩
   rw [← hkk, ← hnn] at hcs
   rw [hcs, Nat.zero_add, ← hN1] at hrng
   subst hcs
   have q10 := hrng 0 _ rfl
   have q11 := hrng 1 _ rfl
   have q12 := hrng 2 _ rfl
   have q13 := hrng 3 _ rfl
   have q14 := hrng 4 _ rfl
   have q15 := hrng 5 _ rfl
   have q16 := hrng 6 _ rfl
   rw [Nat.add_zero] at q10
   have hxj1H := Lib.hid hxj1
   have hN1H := Lib.hid hN1
   clear hrng hxj1 hkk hnn hfw1 hnl hPb hN1
   have hfw2 := FIs.keep (P2 := P) (fun _ h => h) (fun k hP hk => (((hs2H.out.tail hst).keep k hk (by simp)).2)) y.f fa2 0 hf2H.out
   obtain ⟨b2, o2, cs, hae, hPb, hnl, hrng, hxj2⟩ := hfw2.get (j := j) (by rw [← hfn2H.out]; omega)
   subst hae
   obtain ⟨s2, bb2, bbn2, bbc2, ff2, ffn2, ffc2, ll2, lln2, llc2, hcs, -⟩ := hxj2.six
   obtain ⟨y2, hy2⟩ : ∃ z, z = (y.f[j]'(by rw [← hfn2H.out]; omega)).2 := ⟨_, rfl⟩
   obtain ⟨nm2, hnm2⟩ : ∃ z, z = (y.f[j]'(by rw [← hfn2H.out]; omega)).1 := ⟨_, rfl⟩
   have hpair2 := Lib.hid (show (y.f[j]'(by rw [← hfn2H.out]; omega)) = (nm2, y2) by rw [hy2, hnm2])
   rw [← hy2] at hxj2 hcs
   rw [← hnm2] at hrng
   obtain ⟨kk2, hkk⟩ : ∃ k, k = y2.kind := ⟨_, rfl⟩
   obtain ⟨nn2, hnn⟩ : ∃ k, k = y2.num := ⟨_, rfl⟩
   obtain ⟨N2, hN2⟩ : ∃ k, k = strOf nm2 := ⟨_, rfl⟩
   rw [← hkk, ← hnn] at hcs
   rw [hcs, Nat.zero_add, ← hN2] at hrng
   subst hcs
   have q20 := hrng 0 _ rfl
   have q21 := hrng 1 _ rfl
   have q22 := hrng 2 _ rfl
   have q23 := hrng 3 _ rfl
   have q24 := hrng 4 _ rfl
   have q25 := hrng 5 _ rfl
   have q26 := hrng 6 _ rfl
   rw [Nat.add_zero] at q20
   have hxj2H := Lib.hid hxj2
   have hN2H := Lib.hid hN2
   clear hrng hxj2 hkk hnn hfw2 hnl hPb hN2
   have hsz := hfsH.out j (by rw [← hfn1H.out]; omega)
   rw [← hy1] at hsz
   have hstH := Lib.hid hst
   have hwrap : IntKind.i64.wrap ((j : Int) + 1) = (j : Int) + 1 := IntWalk.i64_in _ (by omega)
   have hb1l := World.block_lt_of_cell? wr _ q10
   have hb2l := World.block_lt_of_cell? wr _ q20
   clear hst hy1 hy2 hnm1 hnm2
   by_cases hnn : N1 = N2
   rotate_left
   ·have hd : (N1.toList == N2.toList) = false := by rw [str_cmp]; exact decide_eq_false hnn
    go_wp2_with fail
    refine wp_region_held_drew (S := fun w' => w'.cell? ⟨w.heap.size, 4, none⟩ = some (.slice (some ⟨b1, o1, none⟩) fn1 fc1) ∧ w'.cell? ⟨w.heap.size + 1, 4, none⟩ = some (.slice (some ⟨b2, o2, none⟩) fn1 fc2) ∧ w'.cell? ⟨b1, o1 + j * 7, none⟩ = some (.string N1) ∧ w'.cell? ⟨b1, o1 + j * 7 + 1, none⟩ = some (.int .i64 kk1) ∧ w'.cell? ⟨b1, o1 + j * 7 + 2, none⟩ = some (.int .i64 nn1) ∧ w'.cell? ⟨b1, o1 + j * 7 + 3, none⟩ = some (.string s1) ∧ w'.cell? ⟨b1, o1 + j * 7 + 4, none⟩ = some (.slice bb1 bbn1 bbc1) ∧ w'.cell? ⟨b1, o1 + j * 7 + 5, none⟩ = some (.slice ff1 ffn1 ffc1) ∧ w'.cell? ⟨b1, o1 + j * 7 + 6, none⟩ = some (.slice ll1 lln1 llc1) ∧ w'.cell? ⟨b2, o2 + j * 7, none⟩ = some (.string N2) ∧ w'.cell? ⟨b2, o2 + j * 7 + 1, none⟩ = some (.int .i64 kk2) ∧ w'.cell? ⟨b2, o2 + j * 7 + 2, none⟩ = some (.int .i64 nn2) ∧ w'.cell? ⟨b2, o2 + j * 7 + 3, none⟩ = some (.string s2) ∧ w'.cell? ⟨b2, o2 + j * 7 + 4, none⟩ = some (.slice bb2 bbn2 bbc2) ∧ w'.cell? ⟨b2, o2 + j * 7 + 5, none⟩ = some (.slice ff2 ffn2 ffc2) ∧ w'.cell? ⟨b2, o2 + j * 7 + 6, none⟩ = some (.slice ll2 lln2 llc2)) (by kernel_rfl) ⟨v14, v24, q10, q11, q12, q13, q14, q15, q16, q20, q21, q22, q23, q24, q25, q26⟩ (fun hHeld => ?_)
    refine tkH 0 ?_ rfl (by kernel_rfl) (fun _ _ _ h => h) ?_ hHeld ?_
    rotate_left
    ·intro w' hSw; (try dsimp only at hSw); go_simp
     all_goals (with_reducible rfl)
    simp only [zP, zO, zA, zB, zC, zD, zE, zF]
    refine tkH 1 ?_ rfl (by kernel_rfl) (fun _ _ _ h => h) ?_ hHeld ?_
    rotate_left
    ·intro w' hSw; (try dsimp only at hSw); go_simp
     all_goals (with_reducible rfl)
    simp only [zP, zO, zA, zB, zC, zD, zE, zF]
    refine tkH 2 ?_ rfl (by kernel_rfl) (fun _ _ _ h => h) ?_ hHeld ?_
    rotate_left
    ·intro w' hSw; (try dsimp only at hSw); go_simp
     all_goals (with_reducible rfl)
    simp only [zP, zO, zA, zB, zC, zD, zE, zF]
    refine tkH 3 ?_ rfl (by kernel_rfl) (fun _ _ _ h => h) ?_ hHeld ?_
    rotate_left
    ·intro w' hSw; (try dsimp only at hSw); go_simp
     all_goals (with_reducible rfl)
    simp only [zP, zO, zA, zB, zC, zD, zE, zF]
    refine tkH 4 ?_ rfl (by kernel_rfl) (fun _ _ _ h => h) ?_ hHeld ?_
    rotate_left
    ·intro w' hSw; (try dsimp only at hSw); go_simp
     all_goals (with_reducible rfl)
    simp only [zP, zO, zA, zB, zC, zD, zE, zF]
    refine tkH 5 ?_ rfl (by kernel_rfl) (fun _ _ _ h => h) ?_ hHeld ?_
    rotate_left
    ·intro w' hSw; (try dsimp only at hSw); go_simp
     all_goals (with_reducible rfl)
    simp only [zP, zO, zA, zB, zC, zD, zE, zF]
    refine tkH 6 ?_ rfl (by kernel_rfl) (fun _ _ _ h => h) ?_ hHeld ?_
    rotate_left
    ·intro w' hSw; (try dsimp only at hSw); go_simp
     all_goals (with_reducible rfl)
    simp only [zP, zO, zA, zB, zC, zD, zE, zF]
    refine tkH 7 ?_ rfl (by kernel_rfl) (fun _ _ _ h => h) ?_ hHeld ?_
    rotate_left
    ·intro w' hSw; (try dsimp only at hSw); go_simp
     all_goals (with_reducible rfl)
    simp only [zP, zO, zA, zB, zC, zD, zE, zF]
    refine tkH 8 ?_ rfl (by kernel_rfl) (fun _ _ _ h => h) ?_ hHeld ?_
    rotate_left
    ·intro w' hSw; (try dsimp only at hSw); go_simp
     all_goals (with_reducible rfl)
    simp only [zP, zO, zA, zB, zC, zD, zE, zF]
    refine tkH 9 ?_ rfl (by kernel_rfl) (fun _ _ _ h => h) ?_ hHeld ?_
    rotate_left
    ·intro w' hSw; (try dsimp only at hSw); go_simp
     all_goals (with_reducible rfl)
    simp only [zP, zO, zA, zB, zC, zD, zE, zF]
    refine tkH 10 ?_ rfl (by kernel_rfl) (fun _ _ _ h => h) ?_ hHeld ?_
    rotate_left
    ·intro w' hSw; (try dsimp only at hSw); go_simp
     all_goals (with_reducible rfl)
    simp only [zP, zO, zA, zB, zC, zD, zE, zF]
    refine tkH 11 ?_ rfl (by kernel_rfl) (fun _ _ _ h => h) ?_ hHeld ?_
    rotate_left
    ·intro w' hSw; (try dsimp only at hSw); go_simp
     all_goals (with_reducible rfl)
    simp only [zP, zO, zA, zB, zC, zD, zE, zF]
    refine tkH 12 ?_ rfl (by kernel_rfl) (fun _ _ _ h => h) ?_ hHeld ?_
    rotate_left
    ·intro w' hSw; (try dsimp only at hSw); go_simp
     all_goals (with_reducible rfl)
    simp only [zP, zO, zA, zB, zC, zD, zE, zF]
    refine tkH 13 ?_ rfl (by kernel_rfl) (fun _ _ _ h => h) ?_ hHeld ?_
    rotate_left
    ·intro w' hSw; (try dsimp only at hSw); go_simp
     all_goals (with_reducible rfl)
    simp only [zP, zO, zA, zB, zC, zD, zE, zF]
    refine wpAnyH_take (i := 14) (v := undef) rfl (by kernel_rfl) (by kernel_rfl) (by kernel_rfl) (fun _ _ _ h => h) (Or.inr ⟨by kernel_rfl, rfl⟩) hHeld ?_
    simp only [zP, zO, zA, zB, zC, zD, zE, zF]
    refine wpAnyH_take (i := 15) (v := undef) rfl (by kernel_rfl) (by kernel_rfl) (by kernel_rfl) (fun _ _ _ h => h) (Or.inr ⟨by kernel_rfl, rfl⟩) hHeld ?_
    simp only [zP, zO, zA, zB, zC, zD, zE, zF]
    refine wpAnyH_take (i := 16) (v := undef) rfl (by kernel_rfl) (by kernel_rfl) (by kernel_rfl) (fun _ _ _ h => h) (Or.inr ⟨by kernel_rfl, rfl⟩) hHeld ?_
    simp only [zP, zO, zA, zB, zC, zD, zE, zF]
    refine wpAnyH_take (i := 17) (v := undef) rfl (by kernel_rfl) (by kernel_rfl) (by kernel_rfl) (fun _ _ _ h => h) (Or.inr ⟨by kernel_rfl, rfl⟩) hHeld ?_
    simp only [zP, zO, zA, zB, zC, zD, zE, zF]
    refine wpAnyH_take (i := 18) (v := undef) rfl (by kernel_rfl) (by kernel_rfl) (by kernel_rfl) (fun _ _ _ h => h) (Or.inr ⟨by kernel_rfl, rfl⟩) hHeld ?_
    simp only [zP, zO, zA, zB, zC, zD, zE, zF]
    refine wpAnyH_take (i := 19) (v := undef) rfl (by kernel_rfl) (by kernel_rfl) (by kernel_rfl) (fun _ _ _ h => h) (Or.inr ⟨by kernel_rfl, rfl⟩) hHeld ?_
    simp only [zP, zO, zA, zB, zC, zD, zE, zF]
    refine wpAnyH_take (i := 20) (v := undef) rfl (by kernel_rfl) (by kernel_rfl) (by kernel_rfl) (fun _ _ _ h => h) (Or.inr ⟨by kernel_rfl, rfl⟩) hHeld ?_
    simp only [zP, zO, zA, zB, zC, zD, zE, zF]
    refine wpAnyH_take (i := 21) (v := undef) rfl (by kernel_rfl) (by kernel_rfl) (by kernel_rfl) (fun _ _ _ h => h) (Or.inr ⟨by kernel_rfl, rfl⟩) hHeld ?_
    simp only [zP, zO, zA, zB, zC, zD, zE, zF]
    refine wpAnyH_take (i := 22) (v := undef) rfl (by kernel_rfl) (by kernel_rfl) (by kernel_rfl) (fun _ _ _ h => h) (Or.inr ⟨by kernel_rfl, rfl⟩) hHeld ?_
    simp only [zP, zO, zA, zB, zC, zD, zE, zF]
    refine wpAnyH_take (i := 23) (v := undef) rfl (by kernel_rfl) (by kernel_rfl) (by kernel_rfl) (fun _ _ _ h => h) (Or.inr ⟨by kernel_rfl, rfl⟩) hHeld ?_
    simp only [zP, zO, zA, zB, zC, zD, zE, zF]
    refine wpAnyH_take (i := 24) (v := undef) rfl (by kernel_rfl) (by kernel_rfl) (by kernel_rfl) (fun _ _ _ h => h) (Or.inr ⟨by kernel_rfl, rfl⟩) hHeld ?_
    simp only [zP, zO, zA, zB, zC, zD, zE, zF]
    refine wpAnyH_take (i := 25) (v := undef) rfl (by kernel_rfl) (by kernel_rfl) (by kernel_rfl) (fun _ _ _ h => h) (Or.inr ⟨by kernel_rfl, rfl⟩) hHeld ?_
    simp only [zP, zO, zA, zB, zC, zD, zE, zF]
    refine wpAnyH_take (i := 26) (v := undef) rfl (by kernel_rfl) (by kernel_rfl) (by kernel_rfl) (fun _ _ _ h => h) (Or.inr ⟨by kernel_rfl, rfl⟩) hHeld ?_
    simp only [zP, zO, zA, zB, zC, zD, zE, zF]
    refine wpAnyH_take (i := 27) (v := undef) rfl (by kernel_rfl) (by kernel_rfl) (by kernel_rfl) (fun _ _ _ h => h) (Or.inr ⟨by kernel_rfl, rfl⟩) hHeld ?_
    simp only [zP, zO, zA, zB, zC, zD, zE, zF]
    refine tkH 28 ?_ rfl (by kernel_rfl) (fun _ _ _ h => h) ?_ hHeld ?_
    rotate_left
    ·intro w' hSw; (try dsimp only at hSw); go_simp
     all_goals (with_reducible rfl)
    simp only [zP, zO, zA, zB, zC, zD, zE, zF]
    refine wpAnyH_done (by kernel_rfl) ?_ _
    go_wp2_with fail
    go_ret
    refine ⟨false, rfl, ?_, (hs2H.out.tail hstH.out).tail Step.drew⟩
    simp only [Bool.false_eq_true, false_iff]
    rw [hve2.out]
    intro h
    refine take_neq (by rw [← hfn1H.out]; omega) (by rw [← hfn2H.out]; omega) ?_ h.1
    rw [hpair1.out, hpair2.out]
    intro e
    injection e with e1 e2
    exact hnn (by rw [hN1H.out, hN2H.out, e1])
   ·subst hnn
    go_wp2_with fail
    refine wp_region_held_drew (S := fun w' => w'.cell? ⟨w.heap.size, 4, none⟩ = some (.slice (some ⟨b1, o1, none⟩) fn1 fc1) ∧ w'.cell? ⟨w.heap.size + 1, 4, none⟩ = some (.slice (some ⟨b2, o2, none⟩) fn1 fc2) ∧ w'.cell? ⟨b1, o1 + j * 7, none⟩ = some (.string N1) ∧ w'.cell? ⟨b1, o1 + j * 7 + 1, none⟩ = some (.int .i64 kk1) ∧ w'.cell? ⟨b1, o1 + j * 7 + 2, none⟩ = some (.int .i64 nn1) ∧ w'.cell? ⟨b1, o1 + j * 7 + 3, none⟩ = some (.string s1) ∧ w'.cell? ⟨b1, o1 + j * 7 + 4, none⟩ = some (.slice bb1 bbn1 bbc1) ∧ w'.cell? ⟨b1, o1 + j * 7 + 5, none⟩ = some (.slice ff1 ffn1 ffc1) ∧ w'.cell? ⟨b1, o1 + j * 7 + 6, none⟩ = some (.slice ll1 lln1 llc1) ∧ w'.cell? ⟨b2, o2 + j * 7, none⟩ = some (.string N1) ∧ w'.cell? ⟨b2, o2 + j * 7 + 1, none⟩ = some (.int .i64 kk2) ∧ w'.cell? ⟨b2, o2 + j * 7 + 2, none⟩ = some (.int .i64 nn2) ∧ w'.cell? ⟨b2, o2 + j * 7 + 3, none⟩ = some (.string s2) ∧ w'.cell? ⟨b2, o2 + j * 7 + 4, none⟩ = some (.slice bb2 bbn2 bbc2) ∧ w'.cell? ⟨b2, o2 + j * 7 + 5, none⟩ = some (.slice ff2 ffn2 ffc2) ∧ w'.cell? ⟨b2, o2 + j * 7 + 6, none⟩ = some (.slice ll2 lln2 llc2)) (by kernel_rfl) ⟨v14, v24, q10, q11, q12, q13, q14, q15, q16, q20, q21, q22, q23, q24, q25, q26⟩ (fun hHeld => ?_)
    refine tkH 0 ?_ rfl (by kernel_rfl) (fun _ _ _ h => h) ?_ hHeld ?_
    rotate_left
    ·intro w' hSw; (try dsimp only at hSw); go_simp
     all_goals (with_reducible rfl)
    simp only [zP, zO, zA, zB, zC, zD, zE, zF]
    refine tkH 1 ?_ rfl (by kernel_rfl) (fun _ _ _ h => h) ?_ hHeld ?_
    rotate_left
    ·intro w' hSw; (try dsimp only at hSw); go_simp
     all_goals (with_reducible rfl)
    simp only [zP, zO, zA, zB, zC, zD, zE, zF]
    refine tkH 2 ?_ rfl (by kernel_rfl) (fun _ _ _ h => h) ?_ hHeld ?_
    rotate_left
    ·intro w' hSw; (try dsimp only at hSw); go_simp
     all_goals (with_reducible rfl)
    simp only [zP, zO, zA, zB, zC, zD, zE, zF]
    refine tkH 3 ?_ rfl (by kernel_rfl) (fun _ _ _ h => h) ?_ hHeld ?_
    rotate_left
    ·intro w' hSw; (try dsimp only at hSw); go_simp
     all_goals (with_reducible rfl)
    simp only [zP, zO, zA, zB, zC, zD, zE, zF]
    refine tkH 4 ?_ rfl (by kernel_rfl) (fun _ _ _ h => h) ?_ hHeld ?_
    rotate_left
    ·intro w' hSw; (try dsimp only at hSw); go_simp
     all_goals (with_reducible rfl)
    simp only [zP, zO, zA, zB, zC, zD, zE, zF]
    refine tkH 5 ?_ rfl (by kernel_rfl) (fun _ _ _ h => h) ?_ hHeld ?_
    rotate_left
    ·intro w' hSw; (try dsimp only at hSw); go_simp
     all_goals (with_reducible rfl)
    simp only [zP, zO, zA, zB, zC, zD, zE, zF]
    refine tkH 6 ?_ rfl (by kernel_rfl) (fun _ _ _ h => h) ?_ hHeld ?_
    rotate_left
    ·intro w' hSw; (try dsimp only at hSw); go_simp
     all_goals (with_reducible rfl)
    simp only [zP, zO, zA, zB, zC, zD, zE, zF]
    refine tkH 7 ?_ rfl (by kernel_rfl) (fun _ _ _ h => h) ?_ hHeld ?_
    rotate_left
    ·intro w' hSw; (try dsimp only at hSw); go_simp
     all_goals (with_reducible rfl)
    simp only [zP, zO, zA, zB, zC, zD, zE, zF]
    refine tkH 8 ?_ rfl (by kernel_rfl) (fun _ _ _ h => h) ?_ hHeld ?_
    rotate_left
    ·intro w' hSw; (try dsimp only at hSw); go_simp
     all_goals (with_reducible rfl)
    simp only [zP, zO, zA, zB, zC, zD, zE, zF]
    refine tkH 9 ?_ rfl (by kernel_rfl) (fun _ _ _ h => h) ?_ hHeld ?_
    rotate_left
    ·intro w' hSw; (try dsimp only at hSw); go_simp
     all_goals (with_reducible rfl)
    simp only [zP, zO, zA, zB, zC, zD, zE, zF]
    refine tkH 10 ?_ rfl (by kernel_rfl) (fun _ _ _ h => h) ?_ hHeld ?_
    rotate_left
    ·intro w' hSw; (try dsimp only at hSw); go_simp
     all_goals (with_reducible rfl)
    simp only [zP, zO, zA, zB, zC, zD, zE, zF]
    refine tkH 11 ?_ rfl (by kernel_rfl) (fun _ _ _ h => h) ?_ hHeld ?_
    rotate_left
    ·intro w' hSw; (try dsimp only at hSw); go_simp
     all_goals (with_reducible rfl)
    simp only [zP, zO, zA, zB, zC, zD, zE, zF]
    refine tkH 12 ?_ rfl (by kernel_rfl) (fun _ _ _ h => h) ?_ hHeld ?_
    rotate_left
    ·intro w' hSw; (try dsimp only at hSw); go_simp
     all_goals (with_reducible rfl)
    simp only [zP, zO, zA, zB, zC, zD, zE, zF]
    refine tkH 13 ?_ rfl (by kernel_rfl) (fun _ _ _ h => h) ?_ hHeld ?_
    rotate_left
    ·intro w' hSw; (try dsimp only at hSw); go_simp
     all_goals (with_reducible rfl)
    simp only [zP, zO, zA, zB, zC, zD, zE, zF]
    refine tkH 14 ?_ rfl (by kernel_rfl) (fun _ _ _ h => h) ?_ hHeld ?_
    rotate_left
    ·intro w' hSw; (try dsimp only at hSw); go_simp
     all_goals (with_reducible rfl)
    simp only [zP, zO, zA, zB, zC, zD, zE, zF]
    refine tkH 15 ?_ rfl (by kernel_rfl) (fun _ _ _ h => h) ?_ hHeld ?_
    rotate_left
    ·intro w' hSw; (try dsimp only at hSw); go_simp
     all_goals (with_reducible rfl)
    simp only [zP, zO, zA, zB, zC, zD, zE, zF]
    refine tkH 16 ?_ rfl (by kernel_rfl) (fun _ _ _ h => h) ?_ hHeld ?_
    rotate_left
    ·intro w' hSw; (try dsimp only at hSw); go_simp
     all_goals (with_reducible rfl)
    simp only [zP, zO, zA, zB, zC, zD, zE, zF]
    refine tkH 17 ?_ rfl (by kernel_rfl) (fun _ _ _ h => h) ?_ hHeld ?_
    rotate_left
    ·intro w' hSw; (try dsimp only at hSw); go_simp
     all_goals (with_reducible rfl)
    simp only [zP, zO, zA, zB, zC, zD, zE, zF]
    refine tkH 18 ?_ rfl (by kernel_rfl) (fun _ _ _ h => h) ?_ hHeld ?_
    rotate_left
    ·intro w' hSw; (try dsimp only at hSw); go_simp
     all_goals (with_reducible rfl)
    simp only [zP, zO, zA, zB, zC, zD, zE, zF]
    refine tkH 19 ?_ rfl (by kernel_rfl) (fun _ _ _ h => h) ?_ hHeld ?_
    rotate_left
    ·intro w' hSw; (try dsimp only at hSw); go_simp
     all_goals (with_reducible rfl)
    simp only [zP, zO, zA, zB, zC, zD, zE, zF]
    refine tkH 20 ?_ rfl (by kernel_rfl) (fun _ _ _ h => h) ?_ hHeld ?_
    rotate_left
    ·intro w' hSw; (try dsimp only at hSw); go_simp
     all_goals (with_reducible rfl)
    simp only [zP, zO, zA, zB, zC, zD, zE, zF]
    refine tkH 21 ?_ rfl (by kernel_rfl) (fun _ _ _ h => h) ?_ hHeld ?_
    rotate_left
    ·intro w' hSw; (try dsimp only at hSw); go_simp
     all_goals (with_reducible rfl)
    simp only [zP, zO, zA, zB, zC, zD, zE, zF]
    refine tkH 22 ?_ rfl (by kernel_rfl) (fun _ _ _ h => h) ?_ hHeld ?_
    rotate_left
    ·intro w' hSw; (try dsimp only at hSw); go_simp
     all_goals (with_reducible rfl)
    simp only [zP, zO, zA, zB, zC, zD, zE, zF]
    refine tkH 23 ?_ rfl (by kernel_rfl) (fun _ _ _ h => h) ?_ hHeld ?_
    rotate_left
    ·intro w' hSw; (try dsimp only at hSw); go_simp
     all_goals (with_reducible rfl)
    simp only [zP, zO, zA, zB, zC, zD, zE, zF]
    refine tkH 24 ?_ rfl (by kernel_rfl) (fun _ _ _ h => h) ?_ hHeld ?_
    rotate_left
    ·intro w' hSw; (try dsimp only at hSw); go_simp
     all_goals (with_reducible rfl)
    simp only [zP, zO, zA, zB, zC, zD, zE, zF]
    refine tkH 25 ?_ rfl (by kernel_rfl) (fun _ _ _ h => h) ?_ hHeld ?_
    rotate_left
    ·intro w' hSw; (try dsimp only at hSw); go_simp
     all_goals (with_reducible rfl)
    simp only [zP, zO, zA, zB, zC, zD, zE, zF]
    refine wpAnyH_ready (rs := [26]) (by kernel_rfl) (by simp) ?_
    refine AllReadyH.cons (o := _) rfl (fun K hK => ?_) AllReadyH.nil
    go_simp
    refine (ih P y1 y2 _ _ wr.drew hsz (VIs.keep (w := wr) (w' := wr.drew) (fun _ h => h) (fun _ _ _ => rfl) _ _ hxj1H.out) (VIs.keep (w := wr) (w' := wr.drew) (fun _ h => h) (fun _ _ _ => rfl) _ _ hxj2H.out)).mono ?_
    rintro e w3 ⟨r3, rfl, hr3, hs3⟩
    have hk3 : ∀ (p : Addr) v, wr.cell? p = some v → w3.cell? p = some v := fun p v hv => (World.cell?_of_block (a := p) ((hs3.keep p.block (World.block_lt_of_cell? wr p hv) (by simp)).2)).trans hv
    have a14 := hk3 _ _ v14
    have a24 := hk3 _ _ v24
    have a10 := hk3 _ _ q10
    have a11 := hk3 _ _ q11
    have a12 := hk3 _ _ q12
    have a13 := hk3 _ _ q13
    have a14' := hk3 _ _ q14
    have a15 := hk3 _ _ q15
    have a16 := hk3 _ _ q16
    have a20 := hk3 _ _ q20
    have a21 := hk3 _ _ q21
    have a22 := hk3 _ _ q22
    have a23 := hk3 _ _ q23
    have a24' := hk3 _ _ q24
    have a25 := hk3 _ _ q25
    have a26 := hk3 _ _ q26
    have hs3H := Lib.hid (show Step [] id id wr w3 from (Step.drew).tail hs3)
    have hr3H := Lib.hid hr3
    clear hs3 hk3 hr3
    cases r3
    ·go_wp2_with fail
     refine hK.out _ _ ?_ (fun hHeld => ?_)
     ·exact ⟨a14, a24, a10, a11, a12, a13, a14', a15, a16, a20, a21, a22, a23, a24', a25, a26⟩
     clear hK K
     refine tkH 27 ?_ rfl (by kernel_rfl) (fun _ _ _ h => h) ?_ hHeld ?_
     rotate_left
     ·intro w' hSw; (try dsimp only at hSw); go_simp
      all_goals (with_reducible rfl)
     simp only [zP, zO, zA, zB, zC, zD, zE, zF]
     refine tkH 28 ?_ rfl (by kernel_rfl) (fun _ _ _ h => h) ?_ hHeld ?_
     rotate_left
     ·intro w' hSw; (try dsimp only at hSw); go_simp
      all_goals (with_reducible rfl)
     simp only [zP, zO, zA, zB, zC, zD, zE, zF]
     refine wpAnyH_done (by kernel_rfl) ?_ _
     clear a14 a24 a10 a11 a12 a13 a14' a15 a16 a20 a21 a22 a23 a24' a25 a26 q10 q11 q12 q13 q14 q15 q16 q20 q21 q22 q23 q24 q25 q26 v14 v15 v24 v25 hHeld
     go_wp2_with fail
     go_ret
     refine ⟨false, rfl, ?_, (hs2H.out.tail hstH.out).tail hs3H.out⟩
     simp only [Bool.false_eq_true, false_iff]
     rw [hve2.out]
     intro h
     refine take_neq (by rw [← hfn1H.out]; omega) (by rw [← hfn2H.out]; omega) ?_ h.1
     rw [hpair1.out, hpair2.out]
     intro e
     injection e with e1 e2
     exact absurd (hr3H.out.2 e2) (by simp)
    ·go_wp2_with fail
     refine hK.out _ _ ?_ (fun hHeld => ?_)
     ·exact ⟨a14, a24, a10, a11, a12, a13, a14', a15, a16, a20, a21, a22, a23, a24', a25, a26⟩
     clear hK K
     refine tkH 27 ?_ rfl (by kernel_rfl) (fun _ _ _ h => h) ?_ hHeld ?_
     rotate_left
     ·intro w' hSw; (try dsimp only at hSw); go_simp
      all_goals (with_reducible rfl)
     simp only [zP, zO, zA, zB, zC, zD, zE, zF]
     refine tkH 28 ?_ rfl (by kernel_rfl) (fun _ _ _ h => h) ?_ hHeld ?_
     rotate_left
     ·intro w' hSw; (try dsimp only at hSw); go_simp
      all_goals (with_reducible rfl)
     simp only [zP, zO, zA, zB, zC, zD, zE, zF]
     refine wpAnyH_done (by kernel_rfl) ?_ _
     clear a14 a24 a10 a11 a12 a13 a14' a15 a16 a20 a21 a22 a23 a24' a25 a26 q10 q11 q12 q13 q14 q15 q16 q20 q21 q22 q23 q24 q25 q26 v14 v15 v24 v25 hHeld
     go_wp2_with fail
     go_roundw
     case rel =>
      refine ⟨j + 1, by go_num, by omega, hstH.out.tail hs3H.out, ?_⟩
      rw [List.take_succ_eq_append_getElem (by rw [← hfn1H.out]; omega), List.take_succ_eq_append_getElem (by rw [← hfn2H.out]; omega), htkH.out, hpair1.out, hpair2.out, hr3H.out.1 (by simp), show nm1 = nm2 from strOf_inj (hN1H.out.symm.trans hN2H.out)]
     case measure => simp [intOf]; omega
  ·have hjl1 : ¬ (j : Int) < (fn1 : Int) := by omega
   have hff : x.f = y.f := by
    have := htkH.out
    rwa [List.take_of_length_le (by rw [← hfn1H.out]; omega), List.take_of_length_le (by rw [← hfn2H.out]; omega)] at this
   have hffH := Lib.hid hff
   have hst0 := Lib.hid hst
   obtain ⟨W3, hW3⟩ : ∃ W3, W3 = wr := ⟨_, rfl⟩
   clear hff hst htkH hj hjl
   go_wp2_with fail
   rw [← hW3] at hst0 ⊢
   clear hW3 v14 v15 v24 v25 hV1l hV2l
   go_loopw [6] (fun i wr => ∃ (j : Nat), i = .int .i64 j ∧ j ≤ ln1 ∧ Step [] id id W2 wr ∧ x.l.take j = y.l.take j) (fun i _ => ln1 - (intOf i).toNat)
   case atStart => exact ⟨0, rfl, Nat.zero_le _, hst0.out, rfl⟩
   case round =>
    obtain ⟨j, rfl, hj, hst, htk⟩ := hrel
    have hVr1 := hst.at hV1.out (by simp)
    have hVr2 := hst.at hV2.out (by simp)
    have v14 := cell_blk hVr1 (i := 4) rfl
    have v15 := cell_blk hVr1 (i := 5) rfl
    have v24 := cell_blk hVr2 (i := 4) rfl
    have v25 := cell_blk hVr2 (i := 5) rfl
    have hV1l := lt_of_block hVr1
    have hV2l := lt_of_block hVr2
    clear hVr1 hVr2
    have htkH := Lib.hid htk
    clear htk
    by_cases hjl : j < ln1
    ·have hjl1 : (j : Int) < (ln1 : Int) := by omega
     have hj0 : (0 : Int) ≤ (j : Int) := by omega
     have hlw1 := LIs.keep (P2 := P) (fun _ h => h) (fun k hP hk => (((hs2H.out.tail hst).keep k hk (by simp)).2)) x.l la1 0 hl1H.out
     obtain ⟨b1, o1, cs, hae, hPb, hrng, hxj1⟩ := hlw1.get (j := j) (by rw [← hln1H.out]; omega)
     subst hae
     obtain ⟨s1, bb1, bbn1, bbc1, ff1, ffn1, ffc1, ll1, lln1, llc1, hcs, -⟩ := hxj1.six
     obtain ⟨y1, hy1⟩ : ∃ z, z = (x.l[j]'(by rw [← hln1H.out]; omega)) := ⟨_, rfl⟩
     have hpair1 := Lib.hid hy1
     rw [← hy1] at hxj1 hcs
     obtain ⟨kk1, hkk⟩ : ∃ k, k = y1.kind := ⟨_, rfl⟩
     obtain ⟨nn1, hnn⟩ : ∃ k, k = y1.num := ⟨_, rfl⟩
     rw [← hkk, ← hnn] at hcs
     rw [hcs, Nat.zero_add] at hrng
     subst hcs
     have q10 := hrng 0 _ rfl
     have q11 := hrng 1 _ rfl
     have q12 := hrng 2 _ rfl
     have q13 := hrng 3 _ rfl
     have q14 := hrng 4 _ rfl
     have q15 := hrng 5 _ rfl
     rw [Nat.add_zero] at q10
     have hxj1H := Lib.hid hxj1
     clear hrng hxj1 hkk hnn hlw1 hPb
     have hlw2 := LIs.keep (P2 := P) (fun _ h => h) (fun k hP hk => (((hs2H.out.tail hst).keep k hk (by simp)).2)) y.l la2 0 hl2H.out
     obtain ⟨b2, o2, cs, hae, hPb, hrng, hxj2⟩ := hlw2.get (j := j) (by rw [← hln2H.out]; omega)
     subst hae
     obtain ⟨s2, bb2, bbn2, bbc2, ff2, ffn2, ffc2, ll2, lln2, llc2, hcs, -⟩ := hxj2.six
     obtain ⟨y2, hy2⟩ : ∃ z, z = (y.l[j]'(by rw [← hln2H.out]; omega)) := ⟨_, rfl⟩
     have hpair2 := Lib.hid hy2
     rw [← hy2] at hxj2 hcs
     obtain ⟨kk2, hkk⟩ : ∃ k, k = y2.kind := ⟨_, rfl⟩
     obtain ⟨nn2, hnn⟩ : ∃ k, k = y2.num := ⟨_, rfl⟩
     rw [← hkk, ← hnn] at hcs
     rw [hcs, Nat.zero_add] at hrng
     subst hcs
     have q20 := hrng 0 _ rfl
     have q21 := hrng 1 _ rfl
     have q22 := hrng 2 _ rfl
     have q23 := hrng 3 _ rfl
     have q24 := hrng 4 _ rfl
     have q25 := hrng 5 _ rfl
     rw [Nat.add_zero] at q20
     have hxj2H := Lib.hid hxj2
     clear hrng hxj2 hkk hnn hlw2 hPb
     have hsz := hlsH.out j (by rw [← hln1H.out]; omega)
     rw [← hpair1.out] at hsz
     have hstH := Lib.hid hst
     have hwrap : IntKind.i64.wrap ((j : Int) + 1) = (j : Int) + 1 := IntWalk.i64_in _ (by omega)
     have hb1l := World.block_lt_of_cell? wr _ q10
     have hb2l := World.block_lt_of_cell? wr _ q20
     clear hst hy1 hy2
     go_wp2_with fail
     refine wp_region_held_drew (S := fun w' => w'.cell? ⟨w.heap.size, 5, none⟩ = some (.slice (some ⟨b1, o1, none⟩) ln1 lc1) ∧ w'.cell? ⟨w.heap.size + 1, 5, none⟩ = some (.slice (some ⟨b2, o2, none⟩) ln1 lc2) ∧ w'.cell? ⟨b1, o1 + j * 6, none⟩ = some (.int .i64 kk1) ∧ w'.cell? ⟨b1, o1 + j * 6 + 1, none⟩ = some (.int .i64 nn1) ∧ w'.cell? ⟨b1, o1 + j * 6 + 2, none⟩ = some (.string s1) ∧ w'.cell? ⟨b1, o1 + j * 6 + 3, none⟩ = some (.slice bb1 bbn1 bbc1) ∧ w'.cell? ⟨b1, o1 + j * 6 + 4, none⟩ = some (.slice ff1 ffn1 ffc1) ∧ w'.cell? ⟨b1, o1 + j * 6 + 5, none⟩ = some (.slice ll1 lln1 llc1) ∧ w'.cell? ⟨b2, o2 + j * 6, none⟩ = some (.int .i64 kk2) ∧ w'.cell? ⟨b2, o2 + j * 6 + 1, none⟩ = some (.int .i64 nn2) ∧ w'.cell? ⟨b2, o2 + j * 6 + 2, none⟩ = some (.string s2) ∧ w'.cell? ⟨b2, o2 + j * 6 + 3, none⟩ = some (.slice bb2 bbn2 bbc2) ∧ w'.cell? ⟨b2, o2 + j * 6 + 4, none⟩ = some (.slice ff2 ffn2 ffc2) ∧ w'.cell? ⟨b2, o2 + j * 6 + 5, none⟩ = some (.slice ll2 lln2 llc2)) (by kernel_rfl) ⟨v15, v25, q10, q11, q12, q13, q14, q15, q20, q21, q22, q23, q24, q25⟩ (fun hHeld => ?_)
     refine tkH 0 ?_ rfl (by kernel_rfl) (fun _ _ _ h => h) ?_ hHeld ?_
     rotate_left
     ·intro w' hSw; (try dsimp only at hSw); go_simp
      all_goals (with_reducible rfl)
     simp only [zP, zO, zA, zB, zC, zD, zE, zF]
     refine tkH 1 ?_ rfl (by kernel_rfl) (fun _ _ _ h => h) ?_ hHeld ?_
     rotate_left
     ·intro w' hSw; (try dsimp only at hSw); go_simp
      all_goals (with_reducible rfl)
     simp only [zP, zO, zA, zB, zC, zD, zE, zF]
     refine tkH 2 ?_ rfl (by kernel_rfl) (fun _ _ _ h => h) ?_ hHeld ?_
     rotate_left
     ·intro w' hSw; (try dsimp only at hSw); go_simp
      all_goals (with_reducible rfl)
     simp only [zP, zO, zA, zB, zC, zD, zE, zF]
     refine tkH 3 ?_ rfl (by kernel_rfl) (fun _ _ _ h => h) ?_ hHeld ?_
     rotate_left
     ·intro w' hSw; (try dsimp only at hSw); go_simp
      all_goals (with_reducible rfl)
     simp only [zP, zO, zA, zB, zC, zD, zE, zF]
     refine tkH 4 ?_ rfl (by kernel_rfl) (fun _ _ _ h => h) ?_ hHeld ?_
     rotate_left
     ·intro w' hSw; (try dsimp only at hSw); go_simp
      all_goals (with_reducible rfl)
     simp only [zP, zO, zA, zB, zC, zD, zE, zF]
     refine tkH 5 ?_ rfl (by kernel_rfl) (fun _ _ _ h => h) ?_ hHeld ?_
     rotate_left
     ·intro w' hSw; (try dsimp only at hSw); go_simp
      all_goals (with_reducible rfl)
     simp only [zP, zO, zA, zB, zC, zD, zE, zF]
     refine tkH 6 ?_ rfl (by kernel_rfl) (fun _ _ _ h => h) ?_ hHeld ?_
     rotate_left
     ·intro w' hSw; (try dsimp only at hSw); go_simp
      all_goals (with_reducible rfl)
     simp only [zP, zO, zA, zB, zC, zD, zE, zF]
     refine tkH 7 ?_ rfl (by kernel_rfl) (fun _ _ _ h => h) ?_ hHeld ?_
     rotate_left
     ·intro w' hSw; (try dsimp only at hSw); go_simp
      all_goals (with_reducible rfl)
     simp only [zP, zO, zA, zB, zC, zD, zE, zF]
     refine tkH 8 ?_ rfl (by kernel_rfl) (fun _ _ _ h => h) ?_ hHeld ?_
     rotate_left
     ·intro w' hSw; (try dsimp only at hSw); go_simp
      all_goals (with_reducible rfl)
     simp only [zP, zO, zA, zB, zC, zD, zE, zF]
     refine tkH 9 ?_ rfl (by kernel_rfl) (fun _ _ _ h => h) ?_ hHeld ?_
     rotate_left
     ·intro w' hSw; (try dsimp only at hSw); go_simp
      all_goals (with_reducible rfl)
     simp only [zP, zO, zA, zB, zC, zD, zE, zF]
     refine wpAnyH_ready (rs := [10]) (by kernel_rfl) (by simp) ?_
     refine AllReadyH.cons (o := _) rfl (fun K hK => ?_) AllReadyH.nil
     go_simp
     refine (ih P y1 y2 _ _ wr.drew hsz (VIs.keep (w := wr) (w' := wr.drew) (fun _ h => h) (fun _ _ _ => rfl) _ _ hxj1H.out) (VIs.keep (w := wr) (w' := wr.drew) (fun _ h => h) (fun _ _ _ => rfl) _ _ hxj2H.out)).mono ?_
     rintro e w3 ⟨r3, rfl, hr3, hs3⟩
     have hk3 : ∀ (p : Addr) v, wr.cell? p = some v → w3.cell? p = some v := fun p v hv => (World.cell?_of_block (a := p) ((hs3.keep p.block (World.block_lt_of_cell? wr p hv) (by simp)).2)).trans hv
     have c1 := hk3 _ _ v15
     have c2 := hk3 _ _ v25
     have a10 := hk3 _ _ q10
     have a11 := hk3 _ _ q11
     have a12 := hk3 _ _ q12
     have a13 := hk3 _ _ q13
     have a14' := hk3 _ _ q14
     have a15 := hk3 _ _ q15
     have a20 := hk3 _ _ q20
     have a21 := hk3 _ _ q21
     have a22 := hk3 _ _ q22
     have a23 := hk3 _ _ q23
     have a24' := hk3 _ _ q24
     have a25 := hk3 _ _ q25
     have hs3H := Lib.hid (show Step [] id id wr w3 from (Step.drew).tail hs3)
     have hr3H := Lib.hid hr3
     clear hs3 hk3 hr3
     cases r3
     ·go_wp2_with fail
      refine hK.out _ _ ?_ (fun hHeld => ?_)
      ·exact ⟨c1, c2, a10, a11, a12, a13, a14', a15, a20, a21, a22, a23, a24', a25⟩
      clear hK K
      refine tkH 11 ?_ rfl (by kernel_rfl) (fun _ _ _ h => h) ?_ hHeld ?_
      rotate_left
      ·intro w' hSw; (try dsimp only at hSw); go_simp
       all_goals (with_reducible rfl)
      simp only [zP, zO, zA, zB, zC, zD, zE, zF]
      refine wpAnyH_done (by kernel_rfl) ?_ _
      clear c1 c2 a10 a11 a12 a13 a14' a15 a20 a21 a22 a23 a24' a25 q10 q11 q12 q13 q14 q15 q20 q21 q22 q23 q24 q25 v14 v15 v24 v25 hHeld
      go_wp2_with fail
      go_ret
      refine ⟨false, rfl, ?_, (hs2H.out.tail hstH.out).tail hs3H.out⟩
      simp only [Bool.false_eq_true, false_iff]
      rw [hve2.out]
      intro h
      refine take_neq (by rw [← hln1H.out]; omega) (by rw [← hln2H.out]; omega) ?_ h.2
      rw [← hpair1.out, ← hpair2.out]
      intro e
      exact absurd (hr3H.out.2 e) (by simp)
     ·go_wp2_with fail
      refine hK.out _ _ ?_ (fun hHeld => ?_)
      ·exact ⟨c1, c2, a10, a11, a12, a13, a14', a15, a20, a21, a22, a23, a24', a25⟩
      clear hK K
      refine tkH 11 ?_ rfl (by kernel_rfl) (fun _ _ _ h => h) ?_ hHeld ?_
      rotate_left
      ·intro w' hSw; (try dsimp only at hSw); go_simp
       all_goals (with_reducible rfl)
      simp only [zP, zO, zA, zB, zC, zD, zE, zF]
      refine wpAnyH_done (by kernel_rfl) ?_ _
      clear c1 c2 a10 a11 a12 a13 a14' a15 a20 a21 a22 a23 a24' a25 q10 q11 q12 q13 q14 q15 q20 q21 q22 q23 q24 q25 v14 v15 v24 v25 hHeld
      go_wp2_with fail
      go_roundw
      case rel =>
       refine ⟨j + 1, by go_num, by omega, hstH.out.tail hs3H.out, ?_⟩
       rw [List.take_succ_eq_append_getElem (by rw [← hln1H.out]; omega), List.take_succ_eq_append_getElem (by rw [← hln2H.out]; omega), htkH.out, ← hpair1.out, ← hpair2.out, hr3H.out.1 (by simp)]
      case measure => simp [intOf]; omega
    ·have hjl1 : ¬ (j : Int) < (ln1 : Int) := by omega
     have hll : x.l = y.l := by
      have := htkH.out
      rwa [List.take_of_length_le (by rw [← hln1H.out]; omega), List.take_of_length_le (by rw [← hln2H.out]; omega)] at this
     have hstH := Lib.hid hst
     have hxy := Lib.hid (show x = y from hve2.out.2 ⟨hffH.out, hll⟩)
     clear hst hll
     go_wp2_with fail
     go_ret
     exact ⟨true, rfl, by simp [hxy.out], hs2H.out.tail hstH.out⟩
theorem rsame_all : ∀ N, SameC 10 N
 | 0 => fun _ x _ _ _ _ hN => absurd hN (Nat.not_lt_zero _)
 | N + 1 => rsame_step N (rsame_all N)
theorem ref_same {P : Nat → Prop} {x y : Val} {cs ds : List Value} {w : World} (hx : VIs P w x cs) (hy : VIs P w y ds) : Calls Tryz.prog 10 #[.agg cs.toArray, .agg ds.toArray] w (SameB x y w) :=
 rsame_all (SizeOf.sizeOf x + 1) P x y cs ds w (Nat.lt_succ_self _) hx hy
end Go.Proofs.YtembpajlllnncaaGreatDoor
