/- Accumulators: push: a value is pushed (printed by mkpush.py). -/
import Derived.Test.YtembpajlllnncaaGreatDoorAcPe
import Derived.Test.YtembpajlllnncaaGreatDoorLate
set_option linter.unusedVariables false
set_option linter.unusedSimpArgs false
namespace Go.Proofs.YtembpajlllnncaaGreatDoor
open Go.RowKit

set_option maxRecDepth 100000 in
set_option maxHeartbeats 4000000 in
theorem push_ok {P Q : Nat → Prop} {w : World} {S : Nat} {K many size : Int} {l : List Val} {row : Option Nat} {x : Val} {cs : List Value} (h : AccL P w S K many l size row) (hx : VIs Q w x cs) (hQ : ∀ k, Q k → k ≠ S) (ht : Tw w) (hk : x.kind ≠ 0) (hb : ¬ ownV (listV [x]) < 0)
  (hlong : ¬ size + moreV x l.length + 7 > 65536) (hwt : weightV x ≤ 100000000) (hP : ∀ k, w.heap.size ≤ k → P k) :
  Calls Tryz.prog 27 #[.pointer (some ⟨S, 0, none⟩), .agg cs.toArray] w (PushOK P S K many size l row x w) := by
 obtain ⟨s0, ba, bn, bc, fa, fn, fc, la, ln, lc, hcs, -⟩ := hx.six
 obtain ⟨n0, hn0⟩ : ∃ k, k = x.num := ⟨_, rfl⟩
 obtain ⟨k0, hk0⟩ : ∃ k, k = x.kind := ⟨_, rfl⟩
 rw [← hk0, ← hn0] at hcs
 subst hcs
 obtain ⟨W1, hW1⟩ : ∃ W1, W1 = w.alloc (.cells #[.int .i64 k0, .int .i64 n0, .string s0, .slice ba bn bc, .slice fa fn fc, .slice la ln lc] 35) := ⟨_, rfl⟩
 obtain ⟨W2, hW2⟩ : ∃ W2, W2 = W1.alloc (.cells #[.int .i64 k0, .int .i64 n0, .string s0, .slice ba bn bc, .slice fa fn fc, .slice la ln lc] 35) := ⟨_, rfl⟩
 have hs1 : Step [] id id w W1 := by rw [hW1]; exact Step.alloc _
 have hs2 : Step [] id id w W2 := by rw [hW2]; exact hs1.tail (Step.alloc _)
 have z1 : W1.heap.size = w.heap.size + 1 := by rw [hW1]; simp
 have hB := heap_alloc_new W1 (.cells #[.int .i64 k0, .int .i64 n0, .string s0, .slice ba bn bc, .slice fa fn fc, .slice la ln lc] 35)
 rw [← hW2, z1] at hB
 have hV1 : W1.heap[w.heap.size]? = some (.cells #[.int .i64 k0, .int .i64 n0, .string s0, .slice ba bn bc, .slice fa fn fc, .slice la ln lc] 35 (0, 0)) := by rw [hW1]; exact heap_alloc_new w _
 have hV2 : W2.heap[w.heap.size]? = some (.cells #[.int .i64 k0, .int .i64 n0, .string s0, .slice ba bn bc, .slice fa fn fc, .slice la ln lc] 35 (0, 0)) := by rw [hW2]; exact alloc_old hV1
 have hown := acc_own (vis_list1 (hx.low.onto hs2) hB (lt_of_block hB)) (ht.step hs2)
 have hkb : (k0 == 0) = false := by rw [beq_eq_false_iff_ne, hk0]; exact hk
 have hNr := ownV_range (listV [x])
 obtain ⟨N, hN⟩ : ∃ N, N = ownV (listV [x]) := ⟨_, rfl⟩
 rw [← hN] at hown hb hNr
 have hownH := Lib.hid hown
 have hs2H := Lib.hid hs2
 have hV2H := Lib.hid hV2
 have hW1H := Lib.hid hW1
 have hW2H := Lib.hid hW2
 obtain ⟨va, vc, xs, hst, hrow, hown0, hL, hrS, hPr, hls, hsz⟩ := h
 obtain ⟨n, hn⟩ : ∃ n, n = l.length := ⟨_, rfl⟩
 rw [← hn] at hown0 hst hls hrow
 obtain ⟨IT, hIT⟩ : ∃ IT, IT = strOf (itoa n) := ⟨_, rfl⟩
 obtain ⟨D, hD⟩ : ∃ D, D = (itoa n).length := ⟨_, rfl⟩
 have hsz2 : IT.size = D := by rw [hIT, hD, strOf_size]
 have hDl : D ≤ 20 := by rw [hD]; exact itoa_length 19 n (by omega)
 have hit := Lib.hid (show ∀ W, Step [] id id w W → Calls Tryz.prog 40 #[.int .i64 n] W fun e w' => e = .returned (.string IT) ∧ Step [] id id W w' from fun W hs => by
  rw [hIT]
  exact (bs_itoa n W (by omega) (ht.step hs).pow).mono fun e w' h => ⟨h.1, .grown h.2 (fun _ h => by cases h)⟩)
 have how := Lib.hid (show ∀ (W : World), Step [] id id w W → Calls Tryz.prog 28 #[.agg #[.int .i64 7, .int .i64 0, (.string ⟨#[]⟩), (.slice none 0 0), (.slice none 0 0), (.slice none 0 0)]] W fun e w' => e = .returned (.int .i64 5) ∧ Step [] id id W w' from fun W hs => (acc_own (P := fun _ => True) vis_list0 (ht.step hs)).mono fun e w' h => ⟨by rw [h.1, own_list0], h.2⟩)
 have hM : moreV x n = N + ((D : Int) - 1 - 5) := by unfold moreV; rw [← hN, ← hD]; omega
 have hw1 : IntKind.i64.wrap ((D : Int) - 1) = (D : Int) - 1 := IntWalk.i64_in _ (by omega)
 have hw2 : IntKind.i64.wrap ((D : Int) - 1 - 5) = (D : Int) - 1 - 5 := IntWalk.i64_in _ (by omega)
 have hNb : decide (N < 0) = false := decide_eq_false hb
 rw [← hn, hM] at hlong
 obtain ⟨M, hMM⟩ : ∃ M, M = N + ((D : Int) - 1 - 5) := ⟨_, rfl⟩
 have hMr : 0 ≤ M + 7 ∧ M ≤ 70000 := by omega
 rw [← hMM] at hlong
 have hw3 : IntKind.i64.wrap (N + ((D : Int) - 1 - 5)) = M := by rw [hMM]; exact IntWalk.i64_in _ (by omega)
 have hw4 : IntKind.i64.wrap (size + M) = size + M := IntWalk.i64_in _ (by omega)
 have hw5 : IntKind.i64.wrap (size + M + 7) = size + M + 7 := IntWalk.i64_in _ (by omega)
 have hstH := Lib.hid hst
 have hLb : decide (size + M + 7 > 65536) = false := decide_eq_false hlong
 have hb8 := ownV_list (x := x) (by rw [← hN]; exact hb)
 rw [← hN] at hb8
 have hxb := Lib.hid (VIs.below _ _ hx)
 have hM3 := Lib.hid (show moreV x n = M by rw [hM, hMM])
 have hD1 : 1 ≤ D := by rw [hD]; unfold itoa; split <;> simp
 have hMr2 := Lib.hid (show 3 ≤ M ∧ size + M ≤ 65529 by omega)
 have hlt := fun k hk => (World.ownsRow.lt hown0 k hk).2
 have hrest := Lib.hid (And.intro hrow (And.intro hL (And.intro hrS (And.intro (fun k hk => And.intro (hPr k hk) (hlt k (by rw [← hrow]; exact hk))) hls))))
 have hrowH := Lib.hid hrow
 have hown0H := Lib.hid hown0
 have hrSH := Lib.hid hrS
 have hnH := Lib.hid hn
 have hQH := Lib.hid hQ
 have hPH := Lib.hid hP
 have hwtH := Lib.hid hwt
 have hlS := lt_of_block hst
 have hn6 : n ≤ 65536 := by omega
 clear hx ht hs1 hs2 z1 hB hV1 hV2 hown hk hk0 hn0 hN hW1 hW2 hNr hst hrow hown0 hL hrS hPr hn hIT hD hM hMM hMr hb hlong hDl hwt hb8 hls hsz hlt hQ hP hD1
 go_enter Tryz.func27, Tryz.ntmps27
 go_wp2_with fail
 rw [← hW1H.out, ← hW2H.out]
 refine hownH.out.mono ?_
 rintro e w3 ⟨rfl, hs3⟩
 have hs03 := hs2H.out.tail hs3
 have hS3 := hs03.at hstH.out (by simp)
 have c7 := cell_blk hS3 (i := 7) rfl
 have l3 := lt_of_block hS3
 have hV3H := Lib.hid (hs3.at hV2H.out (by simp))
 have hs03H := Lib.hid hs03
 clear hs3 hs03 hS3
 go_wp2_with fail
 refine (hit.out _ hs03H.out).mono ?_
 rintro e w4 ⟨rfl, hs4⟩
 have hs4H := Lib.hid hs4
 clear hs4
 go_wp2_with fail
 refine (how.out _ (hs03H.out.tail hs4H.out)).mono ?_
 rintro e w5 ⟨rfl, hs5⟩
 have hs05 := (hs03H.out.tail hs4H.out).tail hs5
 have hS5 := hs05.at hstH.out (by simp)
 have hV5 := (hs4H.out.tail hs5).at hV3H.out (by simp)
 have hS5H := Lib.hid hS5
 have hV5H := Lib.hid hV5
 have hs05H := Lib.hid hs05
 have c8 := cell_blk hS5 (i := 8) rfl
 have f5 := free_blk hS5
 have l5 := lt_of_block hS5
 clear hs5 hs05 hS5 hV5
 go_wp2_with fail
 obtain ⟨W6, hW6⟩ : ∃ W6, W6 = w5.setCell ⟨S, 8, none⟩ (.int .i64 (size + M)) := ⟨_, rfl⟩
 rw [← hW6]
 have hs06 : Step [S] id id w W6 := by rw [hW6]; exact (hs05H.out.mono (fun _ h => by cases h)).tail (Step.set _ _ (by simp))
 have hS6 : StC W6 S K many (.int .i64 7) (.int .i64 0) (.string ⟨#[]⟩) (.slice none 0 0) (.slice none 0 0) (.slice va n vc) (size + M) false := by
  have h7 := set_blk hS5H.out 8 (.int .i64 (size + M))
  unfold StC; rw [hW6]; simpa using h7
 have hV6 : W6.heap[w.heap.size]? = some (.cells #[.int .i64 k0, .int .i64 n0, .string s0, .slice ba bn bc, .slice fa fn fc, .slice la ln lc] 35 (0, 0)) := by rw [hW6]; exact set_other hV5H.out (by simp; omega)
 have hx6 := hxb.out.keep (P2 := fun _ => True) (w' := W6) (fun _ _ => trivial) (fun k hk hl => (hs06.keep k hl (by simp; exact hQH.out k hk.1)).2)
 have hcpB := Lib.hid (fun (W : World) (hW : Step [] id id W6 W) => bs_copy hwtH.out (hx6.keep (P2 := fun _ => True) (w' := W) (fun _ _ => trivial) (fun k hk hl => (hW.keep k hl (by simp)).2)))
 have hown6H := Lib.hid (ownsRow_step hown0H.out hs06 (fun k hk => by simp; intro e; exact hrSH.out (by rw [hrowH.out, ← e, ← hk])))
 have hx6H := Lib.hid hx6
 have hS6H := Lib.hid hS6
 have hV6H := Lib.hid hV6
 have hs06H := Lib.hid hs06
 have g7 := cell_blk hS6 (i := 7) rfl
 obtain ⟨b0, b1, b2, b3, b4, b5⟩ := cells6A hV6
 have l6 := lt_of_block hS6
 have hall := Lib.hid (fun (W : World) (hs : Step [] id id W6 W) => And.intro (cell_blk (hs.at hS6H.out (by simp)) (i := 7) rfl) (cells6A (hs.at hV6H.out (by simp))))
 clear hW6 hs06 hS6 hV6 hx6 c7 c8 f5
 refine wp_region_late (fun w' => w'.cell? ⟨S, 7, none⟩ = some (.slice va n vc) ∧ w'.cell? ⟨w.heap.size, 0, none⟩ = some (.int .i64 k0) ∧ w'.cell? ⟨w.heap.size, 1, none⟩ = some (.int .i64 n0) ∧ w'.cell? ⟨w.heap.size, 2, none⟩ = some (.string s0) ∧ w'.cell? ⟨w.heap.size, 3, none⟩ = some (.slice ba bn bc) ∧ w'.cell? ⟨w.heap.size, 4, none⟩ = some (.slice fa fn fc) ∧ w'.cell? ⟨w.heap.size, 5, none⟩ = some (.slice la ln lc)) (fun j => decide (10 ≤ j)) (by kernel_rfl) ⟨g7, b0, b1, b2, b3, b4, b5⟩ (fun hHeld => ?_)
 refine wpAnyL_take (i := 0) (v := ?_) rfl (by kernel_rfl) (by kernel_rfl) (by kernel_rfl) (by kernel_rfl) (fun _ _ _ h => h) (Or.inl ⟨by kernel_rfl, ?_⟩) hHeld ?_
 rotate_left
 ·intro w' hSw; (try dsimp only at hSw); go_simp
  all_goals (with_reducible rfl)
 simp only [zP, zO, zA, zB, zC, zD, zE, zF]
 refine wpAnyL_take (i := 1) (v := ?_) rfl (by kernel_rfl) (by kernel_rfl) (by kernel_rfl) (by kernel_rfl) (fun _ _ _ h => h) (Or.inl ⟨by kernel_rfl, ?_⟩) hHeld ?_
 rotate_left
 ·intro w' hSw; (try dsimp only at hSw); go_simp
  all_goals (with_reducible rfl)
 simp only [zP, zO, zA, zB, zC, zD, zE, zF]
 refine wpAnyL_take (i := 2) (v := ?_) rfl (by kernel_rfl) (by kernel_rfl) (by kernel_rfl) (by kernel_rfl) (fun _ _ _ h => h) (Or.inl ⟨by kernel_rfl, ?_⟩) hHeld ?_
 rotate_left
 ·intro w' hSw; (try dsimp only at hSw); go_simp
  all_goals (with_reducible rfl)
 simp only [zP, zO, zA, zB, zC, zD, zE, zF]
 refine wpAnyL_take (i := 3) (v := ?_) rfl (by kernel_rfl) (by kernel_rfl) (by kernel_rfl) (by kernel_rfl) (fun _ _ _ h => h) (Or.inl ⟨by kernel_rfl, ?_⟩) hHeld ?_
 rotate_left
 ·intro w' hSw; (try dsimp only at hSw); go_simp
  all_goals (with_reducible rfl)
 simp only [zP, zO, zA, zB, zC, zD, zE, zF]
 refine wpAnyL_take (i := 4) (v := ?_) rfl (by kernel_rfl) (by kernel_rfl) (by kernel_rfl) (by kernel_rfl) (fun _ _ _ h => h) (Or.inl ⟨by kernel_rfl, ?_⟩) hHeld ?_
 rotate_left
 ·intro w' hSw; (try dsimp only at hSw); go_simp
  all_goals (with_reducible rfl)
 simp only [zP, zO, zA, zB, zC, zD, zE, zF]
 refine wpAnyL_take (i := 5) (v := ?_) rfl (by kernel_rfl) (by kernel_rfl) (by kernel_rfl) (by kernel_rfl) (fun _ _ _ h => h) (Or.inl ⟨by kernel_rfl, ?_⟩) hHeld ?_
 rotate_left
 ·intro w' hSw; (try dsimp only at hSw); go_simp
  all_goals (with_reducible rfl)
 simp only [zP, zO, zA, zB, zC, zD, zE, zF]
 refine wpAnyL_take (i := 7) (v := ?_) rfl (by kernel_rfl) (by kernel_rfl) (by kernel_rfl) (by kernel_rfl) (fun _ _ _ h => h) (Or.inl ⟨by kernel_rfl, ?_⟩) hHeld ?_
 rotate_left
 ·intro w' hSw; (try dsimp only at hSw); go_simp
  all_goals (with_reducible rfl)
 simp only [zP, zO, zA, zB, zC, zD, zE, zF]
 refine wpAnyL_ready (rs := [6, 8]) (by kernel_rfl) (by simp) ?_
 refine AllReadyL.cons (o := _) rfl (fun K hK => ?_) (AllReadyL.cons (o := _) rfl (fun K hK => ?_) AllReadyL.nil)
 ·go_simp
  have hst1 : Step [] id id W6 W6.drew := Step.drew
  refine (hcpB.out _ hst1).mono ?_
  rintro e w9 hC
  obtain ⟨ds, rfl, hxd, hs9⟩ := hC.is (hx6H.out.keep (P2 := fun _ => True) (fun _ _ => trivial) (fun k hk hl => (hst1.keep k hl (by simp)).2))
  obtain ⟨s2, ba2, bn2, bc2, fa2, fn2, fc2, la2, ln2, lc2, hds, -⟩ := hxd.six
  obtain ⟨n2, hn2⟩ : ∃ k, k = x.num := ⟨_, rfl⟩
  obtain ⟨k2, hk2⟩ : ∃ k, k = x.kind := ⟨_, rfl⟩
  rw [← hk2, ← hn2] at hds
  subst hds
  clear hn2 hk2
  have hs69H := Lib.hid (hst1.tail hs9)
  have hxdH := Lib.hid hxd
  clear hs9 hxd hst1 hC
  go_wp2_with fail
  refine hK.out _ _ ?_ (fun hHeld => ?_)
  ·intro _; exact hall.out _ hs69H.out
  have hHeld := hHeld rfl
  clear hK K
  refine wpAnyL_ready (rs := [8]) (by kernel_rfl) (by simp) ?_
  refine AllReadyL.cons (o := _) rfl (fun K hK => ?_) AllReadyL.nil
  go_simp
  obtain ⟨wA, hwA⟩ : ∃ wA, wA = w9.alloc (.cells #[.int .i64 0, .int .i64 0, (.string ⟨#[]⟩), (.slice none 0 0), (.slice none 0 0), (.slice none 0 0)] 35) := ⟨_, rfl⟩
  rw [← hwA]
  have hsA := Lib.hid (show Step [] id id W6 wA by rw [hwA]; exact hs69H.out.tail (Step.alloc _))
  have hZA := Lib.hid (show wA.heap[w9.heap.size]? = some (.cells #[.int .i64 0, .int .i64 0, (.string ⟨#[]⟩), (.slice none 0 0), (.slice none 0 0), (.slice none 0 0)] 35 (0, 0)) by rw [hwA]; exact heap_alloc_new w9 _)
  have hxA := Lib.hid (hxdH.out.keep (P2 := fun k => W6.heap.size ≤ k) (w' := wA) (fun k hk => hk) (fun k hk hl => by rw [hwA]; exact Below.heap_alloc _ _ _ hl))
  clear hwA
  refine hK.out _ _ ?_ (fun hHeld => ?_)
  ·intro _; exact hall.out _ hsA.out
  have hHeld := hHeld rfl
  clear hK K hxdH hs69H
  have hall9 := hall.out wA hsA.out
  have hown9 := ownsRow_step hown6H.out hsA.out (fun k hk => by simp)
  have hsrc : Src wA 6 (.slice (some ⟨w9.heap.size, 0, none⟩) 1 1) 1 [.int .i64 0, .int .i64 0, (.string ⟨#[]⟩), (.slice none 0 0), (.slice none 0 0), (.slice none 0 0)] := by
   refine ⟨rfl, .inr ⟨_, 1, rfl, fun t u ht => ?_⟩⟩
   rw [addr_add, Nat.zero_add]
   exact cell_blk hZA.out (by rw [← ht]; simp)
  obtain ⟨i0, hi, hz0, hz1, hz2⟩ := info_split info_value
  refine wpAnyL_ready (rs := [9]) (by kernel_rfl) (by simp) ?_
  refine AllReadyL.cons (o := _) rfl (fun K hK => ?_) AllReadyL.nil
  refine wp_app (.tmp 49) (.tmp 53) 22 (by rfl) 35 i0 _ 6 104 Tryz.underlying22 hi hz0 hz1 hz2 rfl (by decide) (.slice va n vc) n xs (by rfl) hown9 (.slice (some ⟨w9.heap.size, 0, none⟩) 1 1) 1 [.int .i64 0, .int .i64 0, (.string ⟨#[]⟩), (.slice none 0 0), (.slice none 0 0), (.slice none 0 0)] (by rfl) hsrc (by intro u hu; simp only [List.mem_cons, List.mem_nil_iff, or_false] at hu; rcases hu with rfl | rfl | rfl | rfl | rfl | rfl <;> rfl) (by omega) (by omega) ?_
  intro ad' c' w10 hown10 hg10 hnil10 hat10
  obtain ⟨g, rfl, hgf⟩ : ∃ g, ad' = some ⟨g, 0, none⟩ ∧ g < w10.heap.size := by
   rcases hown10.2 with ⟨e, h0⟩ | ⟨g, cap, cur, e, hb, hgg, rest⟩
   ·omega
   ·injection e with e1 e2 e3
    exact ⟨g, e1, lt_of_block hgg⟩
  have hk10 : ∀ k, k < W6.heap.size → row ≠ some k → w10.heap[k]? = wA.heap[k]? := fun k hk hr => hg10.block k (Nat.lt_of_lt_of_le hk hsA.out.size) (by rw [← hrowH.out]; exact fun e => hr e.symm)
  have hrw : ∀ k, row = some k → k < w.heap.size := fun k hk => (hrest.out.2.2.2.1 k hk).2
  have hVl : w.heap.size < W6.heap.size := lt_of_block hV6H.out
  have hS10 := (hk10 S l6 hrSH.out).trans (hsA.out.at hS6H.out (by simp))
  have hV10 := (hk10 w.heap.size hVl (fun e => Nat.lt_irrefl _ (hrw _ e))).trans (hsA.out.at hV6H.out (by simp))
  refine hK.out _ _ ?_ (fun hHeld => ?_)
  ·intro _; exact And.intro (cell_blk hS10 (i := 7) rfl) (cells6A hV10)
  have hHeld := hHeld rfl
  clear hK K
  have hfS := free_blk hS10
  have hfz := World.ownsRow.frozenAt hown10
  have fz1 := hfz (n * 6)
  have fz2 := hfz (n * 6 + 1)
  have fz3 := hfz (n * 6 + 2)
  have fz4 := hfz (n * 6 + 3)
  have fz5 := hfz (n * 6 + 4)
  have fz6 := hfz (n * 6 + 5)
  have hnl : (n : Int) < (n : Int) + 1 := by omega
  have hxl : xs.length = n * 6 := by have h := hown0H.out.1; exact h
  refine wpAnyL_takep (i := 10) (v := ?_) rfl (by kernel_rfl) (by kernel_rfl) (by kernel_rfl) rfl (fun _ _ _ h => h) (Or.inl ⟨by kernel_rfl, ?_⟩) ?_
  rotate_left
  ·intro w' _; go_simp
   all_goals (with_reducible rfl)
  simp only [zP, zO, zA, zB, zC, zD, zE, zF]
  refine wpAnyL_takep (i := 12) (v := ?_) rfl (by kernel_rfl) (by kernel_rfl) (by kernel_rfl) rfl (fun _ _ _ h => h) (Or.inl ⟨by kernel_rfl, ?_⟩) ?_
  rotate_left
  ·intro w' _; go_simp
   all_goals (with_reducible rfl)
  simp only [zP, zO, zA, zB, zC, zD, zE, zF]
  refine wpAnyL_takep (i := 13) (v := ?_) rfl (by kernel_rfl) (by kernel_rfl) (by kernel_rfl) rfl (fun _ _ _ h => h) (Or.inl ⟨by kernel_rfl, ?_⟩) ?_
  rotate_left
  ·intro w' _; go_simp
   all_goals (with_reducible rfl)
  simp only [zP, zO, zA, zB, zC, zD, zE, zF]
  refine wpAnyL_takep (i := 14) (v := ?_) rfl (by kernel_rfl) (by kernel_rfl) (by kernel_rfl) rfl (fun _ _ _ h => h) (Or.inl ⟨by kernel_rfl, ?_⟩) ?_
  rotate_left
  ·intro w' _; go_simp
   all_goals (with_reducible rfl)
  simp only [zP, zO, zA, zB, zC, zD, zE, zF]
  refine wpAnyL_ready (rs := [11, 15]) (by kernel_rfl) (by simp) ?_
  have hcells := fun (W : World) (h : W.ownsRow 0 35 6 (.slice (some ⟨g, 0, none⟩) (n + 1) c') (n + 1) (xs ++ [.int .i64 0, .int .i64 0, (.string ⟨#[]⟩), (.slice none 0 0), (.slice none 0 0), (.slice none 0 0)])) (t : Nat) (u : Value) (ht : [Value.int .i64 0, .int .i64 0, (.string ⟨#[]⟩), (.slice none 0 0), (.slice none 0 0), (.slice none 0 0)][t]? = some u) =>
   (show W.cell? ⟨g, n * 6 + t, none⟩ = some u by
    have h8 := World.ownsRow.cells h (g := g) rfl (n * 6 + t) u (by rw [List.getElem?_append_right (by omega), show n * 6 + t - xs.length = t by omega]; exact ht)
    rw [addr_add, Nat.zero_add] at h8
    exact h8)
  have hend := fun (Wf : World) h => push_end (P := P) (Wf := Wf) (x := x) (hrest.out.1.trans (by rw [hnH.out])) hrest.out.2.1 hrest.out.2.2.1 hrest.out.2.2.2.1 (by rw [← hnH.out]; exact hrest.out.2.2.2.2) (by rw [← hnH.out]; exact hM3.out) hMr2.out hPH.out hlS hs06H.out (by rw [← hnH.out]; exact hS6H.out) hsA.out hxA.out rfl (by rw [← hnH.out]; exact hown10) (by rw [← hnH.out]; exact hg10) (by
   rcases hat10 with h | h
   ·exact .inl (by rw [hrowH.out, ← h]; rfl)
   ·exact .inr (by injection h)) h
  rw [← hnH.out] at hend
  have hendH := Lib.hid hend
  have hmv := Lib.hid (show moreV x n = moreV x l.length by rw [hnH.out])
  have hSg : S ≠ g := by
   rcases hat10 with h | h
   ·intro e; exact hrSH.out (by rw [hrowH.out, ← h, e]; rfl)
   ·have h2 : g = wA.heap.size := by injection h
    have := hsA.out.size; omega
  clear hend hnil10 hat10 hHeld hsrc hi hz0 hz1 hz2 hown9 hall9
  refine AllReadyL.cons (o := _) rfl (fun K hK => ?_) (AllReadyL.cons (o := _) rfl (fun K hK => ?_) AllReadyL.nil)
  ·have r1 : w10.cell? ⟨g, n * 6, none⟩ = _ := hcells w10 hown10 0 _ rfl
   have r2 := hcells w10 hown10 1 _ rfl
   have r3 := hcells w10 hown10 2 _ rfl
   have r4 := hcells w10 hown10 3 _ rfl
   have r5 := hcells w10 hown10 4 _ rfl
   have r6 := hcells w10 hown10 5 _ rfl
   go_simp
   change K _ (setC6 w10 g (n * 6) (.int .i64 k2) (.int .i64 n2) (.string s2) (.slice ba2 bn2 bc2) (.slice fa2 fn2 fc2) (.slice la2 ln2 lc2))
   obtain ⟨h11, g11⟩ := setC6_row (o := n * 6) (v0 := .int .i64 k2) (v1 := .int .i64 n2) (v2 := .string s2) (v3 := .slice ba2 bn2 bc2) (v4 := .slice fa2 fn2 fc2) (v5 := .slice la2 ln2 lc2) hown10
   have hS11 := (g11.block S (lt_of_block hS10) (by intro e; injection e with e; exact hSg e)).trans hS10
   obtain ⟨W11, hW11⟩ : ∃ W11, W11 = setC6 w10 g (n * 6) (.int .i64 k2) (.int .i64 n2) (.string s2) (.slice ba2 bn2 bc2) (.slice fa2 fn2 fc2) (.slice la2 ln2 lc2) := ⟨_, rfl⟩
   rw [← hW11] at hS11 ⊢
   have hW11H := Lib.hid hW11
   have c7 := cell_blk hS11 (i := 7) rfl
   have f11 := free_blk hS11
   clear hW11 h11 g11 r1 r2 r3 r4 r5 r6 fz1 fz2 fz3 fz4 fz5 fz6 hfz hfS hS11
   refine hK.out _ _ (fun h => by simp at h) (fun _ => ?_)
   clear hK K
   refine wpAnyL_ready (rs := [15]) (by kernel_rfl) (by simp) ?_
   refine AllReadyL.cons (o := _) rfl (fun K hK => ?_) AllReadyL.nil
   go_simp
   refine hK.out _ _ (fun h => by simp at h) (fun _ => ?_)
   clear hK K
   refine wpAnyL_done (by kernel_rfl) ?_ _
   have hfin := Lib.hid (hendH.out _ (.inl (by rw [← hW11H.out])))
   clear c7 f11
   go_wp2_with fail
   go_ret
   have h := hfin.out
   rw [hmv.out] at h
   exact ⟨rfl, _, h⟩
  ·have c7 := cell_blk hS10 (i := 7) rfl
   go_simp
   have hset : Step [S] id id w10 (w10.setCell ⟨S, 7, none⟩ (.slice (some ⟨g, 0, none⟩) (n + 1) c')) := Step.set _ _ (by simp)
   obtain ⟨W11, hW11⟩ : ∃ W11, W11 = w10.setCell ⟨S, 7, none⟩ (.slice (some ⟨g, 0, none⟩) (n + 1) c') := ⟨_, rfl⟩
   rw [← hW11] at hset ⊢
   have hW11H := Lib.hid hW11
   have hown11 := ownsRow_step hown10 hset (fun k hk => by cases hk; simp; exact fun e => hSg e.symm)
   have hfz11 := World.ownsRow.frozenAt hown11
   clear hW11 c7 fz1 fz2 fz3 fz4 fz5 fz6 hfz hfS hset
   refine hK.out _ _ (fun h => by simp at h) (fun _ => ?_)
   clear hK K
   refine wpAnyL_ready (rs := [11]) (by kernel_rfl) (by simp) ?_
   refine AllReadyL.cons (o := _) rfl (fun K hK => ?_) AllReadyL.nil
   have r1 : W11.cell? ⟨g, n * 6, none⟩ = _ := hcells W11 hown11 0 _ rfl
   have r2 := hcells W11 hown11 1 _ rfl
   have r3 := hcells W11 hown11 2 _ rfl
   have r4 := hcells W11 hown11 3 _ rfl
   have r5 := hcells W11 hown11 4 _ rfl
   have r6 := hcells W11 hown11 5 _ rfl
   have fz1 := hfz11 (n * 6)
   have fz2 := hfz11 (n * 6 + 1)
   have fz3 := hfz11 (n * 6 + 2)
   have fz4 := hfz11 (n * 6 + 3)
   have fz5 := hfz11 (n * 6 + 4)
   have fz6 := hfz11 (n * 6 + 5)
   go_simp
   change K _ (setC6 W11 g (n * 6) (.int .i64 k2) (.int .i64 n2) (.string s2) (.slice ba2 bn2 bc2) (.slice fa2 fn2 fc2) (.slice la2 ln2 lc2))
   obtain ⟨W12, hW12⟩ : ∃ W12, W12 = setC6 W11 g (n * 6) (.int .i64 k2) (.int .i64 n2) (.string s2) (.slice ba2 bn2 bc2) (.slice fa2 fn2 fc2) (.slice la2 ln2 lc2) := ⟨_, rfl⟩
   rw [← hW12]
   have hW12H := Lib.hid hW12
   clear hW12 r1 r2 r3 r4 r5 r6 fz1 fz2 fz3 fz4 fz5 fz6 hfz11
   refine hK.out _ _ (fun h => by simp at h) (fun _ => ?_)
   clear hK K
   refine wpAnyL_done (by kernel_rfl) ?_ _
   have hfin := Lib.hid (hendH.out W12 (.inr (by rw [hW12H.out, hW11H.out])))
   go_wp2_with fail
   go_ret
   have h := hfin.out
   rw [hmv.out] at h
   exact ⟨rfl, _, h⟩
 ·go_simp
  obtain ⟨wZ, hwZ⟩ : ∃ wZ, wZ = (W6.alloc (.cells #[.int .i64 0, .int .i64 0, (.string ⟨#[]⟩), (.slice none 0 0), (.slice none 0 0), (.slice none 0 0)] 35)).drew := ⟨_, rfl⟩
  rw [← hwZ]
  have hsZ : Step [] id id W6 wZ := by rw [hwZ]; exact (Step.alloc _).tail Step.drew
  have hZZ : wZ.heap[W6.heap.size]? = some (.cells #[.int .i64 0, .int .i64 0, (.string ⟨#[]⟩), (.slice none 0 0), (.slice none 0 0), (.slice none 0 0)] 35 (0, 0)) := by rw [hwZ]; exact heap_alloc_new W6 _
  clear hwZ
  refine hK.out _ _ ?_ (fun hHeld => ?_)
  ·intro _; exact hall.out _ hsZ
  have hHeld := hHeld rfl
  clear hK K
  refine wpAnyL_ready (rs := [6]) (by kernel_rfl) (by simp) ?_
  refine AllReadyL.cons (o := _) rfl (fun K hK => ?_) AllReadyL.nil
  go_simp
  refine (hcpB.out _ hsZ).mono ?_
  rintro e w9 hC
  obtain ⟨ds, rfl, hxd, hs9⟩ := hC.is (hx6H.out.keep (P2 := fun _ => True) (fun _ _ => trivial) (fun k hk hl => (hsZ.keep k hl (by simp)).2))
  obtain ⟨s2, ba2, bn2, bc2, fa2, fn2, fc2, la2, ln2, lc2, hds, -⟩ := hxd.six
  obtain ⟨n2, hn2⟩ : ∃ k, k = x.num := ⟨_, rfl⟩
  obtain ⟨k2, hk2⟩ : ∃ k, k = x.kind := ⟨_, rfl⟩
  rw [← hk2, ← hn2] at hds
  subst hds
  clear hn2 hk2
  have hsA := Lib.hid (hsZ.tail hs9)
  have hZA := Lib.hid (hs9.at hZZ (by simp))
  have hxA := Lib.hid (hxd.keep (P2 := fun k => W6.heap.size ≤ k) (w' := w9) (fun k hk => Nat.le_trans hsZ.size hk) (fun k hk hl => rfl))
  clear hs9 hxd hC hsZ hZZ
  go_wp2_with fail
  refine hK.out _ _ ?_ (fun hHeld => ?_)
  ·intro _; exact hall.out _ hsA.out
  have hHeld := hHeld rfl
  clear hK K
  obtain ⟨wA, hwA⟩ : ∃ wA, wA = w9 := ⟨_, rfl⟩
  subst hwA
  have hall9 := hall.out wA hsA.out
  have hown9 := ownsRow_step hown6H.out hsA.out (fun k hk => by simp)
  have hsrc : Src wA 6 (.slice (some ⟨W6.heap.size, 0, none⟩) 1 1) 1 [.int .i64 0, .int .i64 0, (.string ⟨#[]⟩), (.slice none 0 0), (.slice none 0 0), (.slice none 0 0)] := by
   refine ⟨rfl, .inr ⟨_, 1, rfl, fun t u ht => ?_⟩⟩
   rw [addr_add, Nat.zero_add]
   exact cell_blk hZA.out (by rw [← ht]; simp)
  obtain ⟨i0, hi, hz0, hz1, hz2⟩ := info_split info_value
  refine wpAnyL_ready (rs := [9]) (by kernel_rfl) (by simp) ?_
  refine AllReadyL.cons (o := _) rfl (fun K hK => ?_) AllReadyL.nil
  refine wp_app (.tmp 49) (.tmp 53) 22 (by rfl) 35 i0 _ 6 104 Tryz.underlying22 hi hz0 hz1 hz2 rfl (by decide) (.slice va n vc) n xs (by rfl) hown9 (.slice (some ⟨W6.heap.size, 0, none⟩) 1 1) 1 [.int .i64 0, .int .i64 0, (.string ⟨#[]⟩), (.slice none 0 0), (.slice none 0 0), (.slice none 0 0)] (by rfl) hsrc (by intro u hu; simp only [List.mem_cons, List.mem_nil_iff, or_false] at hu; rcases hu with rfl | rfl | rfl | rfl | rfl | rfl <;> rfl) (by omega) (by omega) ?_
  intro ad' c' w10 hown10 hg10 hnil10 hat10
  obtain ⟨g, rfl, hgf⟩ : ∃ g, ad' = some ⟨g, 0, none⟩ ∧ g < w10.heap.size := by
   rcases hown10.2 with ⟨e, h0⟩ | ⟨g, cap, cur, e, hb, hgg, rest⟩
   ·omega
   ·injection e with e1 e2 e3
    exact ⟨g, e1, lt_of_block hgg⟩
  have hk10 : ∀ k, k < W6.heap.size → row ≠ some k → w10.heap[k]? = wA.heap[k]? := fun k hk hr => hg10.block k (Nat.lt_of_lt_of_le hk hsA.out.size) (by rw [← hrowH.out]; exact fun e => hr e.symm)
  have hrw : ∀ k, row = some k → k < w.heap.size := fun k hk => (hrest.out.2.2.2.1 k hk).2
  have hVl : w.heap.size < W6.heap.size := lt_of_block hV6H.out
  have hS10 := (hk10 S l6 hrSH.out).trans (hsA.out.at hS6H.out (by simp))
  have hV10 := (hk10 w.heap.size hVl (fun e => Nat.lt_irrefl _ (hrw _ e))).trans (hsA.out.at hV6H.out (by simp))
  refine hK.out _ _ ?_ (fun hHeld => ?_)
  ·intro _; exact And.intro (cell_blk hS10 (i := 7) rfl) (cells6A hV10)
  have hHeld := hHeld rfl
  clear hK K
  have hfS := free_blk hS10
  have hfz := World.ownsRow.frozenAt hown10
  have fz1 := hfz (n * 6)
  have fz2 := hfz (n * 6 + 1)
  have fz3 := hfz (n * 6 + 2)
  have fz4 := hfz (n * 6 + 3)
  have fz5 := hfz (n * 6 + 4)
  have fz6 := hfz (n * 6 + 5)
  have hnl : (n : Int) < (n : Int) + 1 := by omega
  have hxl : xs.length = n * 6 := by have h := hown0H.out.1; exact h
  refine wpAnyL_takep (i := 10) (v := ?_) rfl (by kernel_rfl) (by kernel_rfl) (by kernel_rfl) rfl (fun _ _ _ h => h) (Or.inl ⟨by kernel_rfl, ?_⟩) ?_
  rotate_left
  ·intro w' _; go_simp
   all_goals (with_reducible rfl)
  simp only [zP, zO, zA, zB, zC, zD, zE, zF]
  refine wpAnyL_takep (i := 12) (v := ?_) rfl (by kernel_rfl) (by kernel_rfl) (by kernel_rfl) rfl (fun _ _ _ h => h) (Or.inl ⟨by kernel_rfl, ?_⟩) ?_
  rotate_left
  ·intro w' _; go_simp
   all_goals (with_reducible rfl)
  simp only [zP, zO, zA, zB, zC, zD, zE, zF]
  refine wpAnyL_takep (i := 13) (v := ?_) rfl (by kernel_rfl) (by kernel_rfl) (by kernel_rfl) rfl (fun _ _ _ h => h) (Or.inl ⟨by kernel_rfl, ?_⟩) ?_
  rotate_left
  ·intro w' _; go_simp
   all_goals (with_reducible rfl)
  simp only [zP, zO, zA, zB, zC, zD, zE, zF]
  refine wpAnyL_takep (i := 14) (v := ?_) rfl (by kernel_rfl) (by kernel_rfl) (by kernel_rfl) rfl (fun _ _ _ h => h) (Or.inl ⟨by kernel_rfl, ?_⟩) ?_
  rotate_left
  ·intro w' _; go_simp
   all_goals (with_reducible rfl)
  simp only [zP, zO, zA, zB, zC, zD, zE, zF]
  refine wpAnyL_ready (rs := [11, 15]) (by kernel_rfl) (by simp) ?_
  have hcells := fun (W : World) (h : W.ownsRow 0 35 6 (.slice (some ⟨g, 0, none⟩) (n + 1) c') (n + 1) (xs ++ [.int .i64 0, .int .i64 0, (.string ⟨#[]⟩), (.slice none 0 0), (.slice none 0 0), (.slice none 0 0)])) (t : Nat) (u : Value) (ht : [Value.int .i64 0, .int .i64 0, (.string ⟨#[]⟩), (.slice none 0 0), (.slice none 0 0), (.slice none 0 0)][t]? = some u) =>
   (show W.cell? ⟨g, n * 6 + t, none⟩ = some u by
    have h8 := World.ownsRow.cells h (g := g) rfl (n * 6 + t) u (by rw [List.getElem?_append_right (by omega), show n * 6 + t - xs.length = t by omega]; exact ht)
    rw [addr_add, Nat.zero_add] at h8
    exact h8)
  have hend := fun (Wf : World) h => push_end (P := P) (Wf := Wf) (x := x) (hrest.out.1.trans (by rw [hnH.out])) hrest.out.2.1 hrest.out.2.2.1 hrest.out.2.2.2.1 (by rw [← hnH.out]; exact hrest.out.2.2.2.2) (by rw [← hnH.out]; exact hM3.out) hMr2.out hPH.out hlS hs06H.out (by rw [← hnH.out]; exact hS6H.out) hsA.out hxA.out rfl (by rw [← hnH.out]; exact hown10) (by rw [← hnH.out]; exact hg10) (by
   rcases hat10 with h | h
   ·exact .inl (by rw [hrowH.out, ← h]; rfl)
   ·exact .inr (by injection h)) h
  rw [← hnH.out] at hend
  have hendH := Lib.hid hend
  have hmv := Lib.hid (show moreV x n = moreV x l.length by rw [hnH.out])
  have hSg : S ≠ g := by
   rcases hat10 with h | h
   ·intro e; exact hrSH.out (by rw [hrowH.out, ← h, e]; rfl)
   ·have h2 : g = wA.heap.size := by injection h
    have := hsA.out.size; omega
  clear hend hnil10 hat10 hHeld hsrc hi hz0 hz1 hz2 hown9 hall9
  refine AllReadyL.cons (o := _) rfl (fun K hK => ?_) (AllReadyL.cons (o := _) rfl (fun K hK => ?_) AllReadyL.nil)
  ·have r1 : w10.cell? ⟨g, n * 6, none⟩ = _ := hcells w10 hown10 0 _ rfl
   have r2 := hcells w10 hown10 1 _ rfl
   have r3 := hcells w10 hown10 2 _ rfl
   have r4 := hcells w10 hown10 3 _ rfl
   have r5 := hcells w10 hown10 4 _ rfl
   have r6 := hcells w10 hown10 5 _ rfl
   go_simp
   change K _ (setC6 w10 g (n * 6) (.int .i64 k2) (.int .i64 n2) (.string s2) (.slice ba2 bn2 bc2) (.slice fa2 fn2 fc2) (.slice la2 ln2 lc2))
   obtain ⟨h11, g11⟩ := setC6_row (o := n * 6) (v0 := .int .i64 k2) (v1 := .int .i64 n2) (v2 := .string s2) (v3 := .slice ba2 bn2 bc2) (v4 := .slice fa2 fn2 fc2) (v5 := .slice la2 ln2 lc2) hown10
   have hS11 := (g11.block S (lt_of_block hS10) (by intro e; injection e with e; exact hSg e)).trans hS10
   obtain ⟨W11, hW11⟩ : ∃ W11, W11 = setC6 w10 g (n * 6) (.int .i64 k2) (.int .i64 n2) (.string s2) (.slice ba2 bn2 bc2) (.slice fa2 fn2 fc2) (.slice la2 ln2 lc2) := ⟨_, rfl⟩
   rw [← hW11] at hS11 ⊢
   have hW11H := Lib.hid hW11
   have c7 := cell_blk hS11 (i := 7) rfl
   have f11 := free_blk hS11
   clear hW11 h11 g11 r1 r2 r3 r4 r5 r6 fz1 fz2 fz3 fz4 fz5 fz6 hfz hfS hS11
   refine hK.out _ _ (fun h => by simp at h) (fun _ => ?_)
   clear hK K
   refine wpAnyL_ready (rs := [15]) (by kernel_rfl) (by simp) ?_
   refine AllReadyL.cons (o := _) rfl (fun K hK => ?_) AllReadyL.nil
   go_simp
   refine hK.out _ _ (fun h => by simp at h) (fun _ => ?_)
   clear hK K
   refine wpAnyL_done (by kernel_rfl) ?_ _
   have hfin := Lib.hid (hendH.out _ (.inl (by rw [← hW11H.out])))
   clear c7 f11
   go_wp2_with fail
   go_ret
   have h := hfin.out
   rw [hmv.out] at h
   exact ⟨rfl, _, h⟩
  ·have c7 := cell_blk hS10 (i := 7) rfl
   go_simp
   have hset : Step [S] id id w10 (w10.setCell ⟨S, 7, none⟩ (.slice (some ⟨g, 0, none⟩) (n + 1) c')) := Step.set _ _ (by simp)
   obtain ⟨W11, hW11⟩ : ∃ W11, W11 = w10.setCell ⟨S, 7, none⟩ (.slice (some ⟨g, 0, none⟩) (n + 1) c') := ⟨_, rfl⟩
   rw [← hW11] at hset ⊢
   have hW11H := Lib.hid hW11
   have hown11 := ownsRow_step hown10 hset (fun k hk => by cases hk; simp; exact fun e => hSg e.symm)
   have hfz11 := World.ownsRow.frozenAt hown11
   clear hW11 c7 fz1 fz2 fz3 fz4 fz5 fz6 hfz hfS hset
   refine hK.out _ _ (fun h => by simp at h) (fun _ => ?_)
   clear hK K
   refine wpAnyL_ready (rs := [11]) (by kernel_rfl) (by simp) ?_
   refine AllReadyL.cons (o := _) rfl (fun K hK => ?_) AllReadyL.nil
   have r1 : W11.cell? ⟨g, n * 6, none⟩ = _ := hcells W11 hown11 0 _ rfl
   have r2 := hcells W11 hown11 1 _ rfl
   have r3 := hcells W11 hown11 2 _ rfl
   have r4 := hcells W11 hown11 3 _ rfl
   have r5 := hcells W11 hown11 4 _ rfl
   have r6 := hcells W11 hown11 5 _ rfl
   have fz1 := hfz11 (n * 6)
   have fz2 := hfz11 (n * 6 + 1)
   have fz3 := hfz11 (n * 6 + 2)
   have fz4 := hfz11 (n * 6 + 3)
   have fz5 := hfz11 (n * 6 + 4)
   have fz6 := hfz11 (n * 6 + 5)
   go_simp
   change K _ (setC6 W11 g (n * 6) (.int .i64 k2) (.int .i64 n2) (.string s2) (.slice ba2 bn2 bc2) (.slice fa2 fn2 fc2) (.slice la2 ln2 lc2))
   obtain ⟨W12, hW12⟩ : ∃ W12, W12 = setC6 W11 g (n * 6) (.int .i64 k2) (.int .i64 n2) (.string s2) (.slice ba2 bn2 bc2) (.slice fa2 fn2 fc2) (.slice la2 ln2 lc2) := ⟨_, rfl⟩
   rw [← hW12]
   have hW12H := Lib.hid hW12
   clear hW12 r1 r2 r3 r4 r5 r6 fz1 fz2 fz3 fz4 fz5 fz6 hfz11
   refine hK.out _ _ (fun h => by simp at h) (fun _ => ?_)
   clear hK K
   refine wpAnyL_done (by kernel_rfl) ?_ _
   have hfin := Lib.hid (hendH.out W12 (.inr (by rw [hW12H.out, hW11H.out])))
   go_wp2_with fail
   go_ret
   have h := hfin.out
   rw [hmv.out] at h
   exact ⟨rfl, _, h⟩
end Go.Proofs.YtembpajlllnncaaGreatDoor
