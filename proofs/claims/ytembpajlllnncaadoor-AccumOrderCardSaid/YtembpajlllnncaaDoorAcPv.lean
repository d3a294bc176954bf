/- Accumulators: push: what is not pushed. -/
import Derived.Test.YtembpajlllnncaaDoorAcPu
set_option linter.unusedVariables false
set_option linter.unusedSimpArgs false
namespace Go.Proofs.YtembpajlllnncaaDoor
open Go.RowKit

set_option maxRecDepth 100000 in
/-- Missing is let pass. -/
theorem push_none {w : World} {p n s b f l : Value} : Calls Tryd.prog 22 #[p, .agg #[.int .i64 0, n, s, b, f, l]] w fun e w' => e = .returned (.int .i64 0) ∧ Step [] id id w w' := by
  go_enter Tryd.func22, Tryd.ntmps22
  go_wp2_with fail
  go_ret
  exact ⟨rfl, Step.alloc _⟩
set_option maxRecDepth 100000 in
set_option maxHeartbeats 4000000 in
/-- What may not be. -/
theorem push_bad {P : Nat → Prop} {w : World} {p : Value} {x : Val} {cs : List Value} (hx : VIs P w x cs) (ht : Tw w) (hk : x.kind ≠ 0) (hb : ownV (listV [x]) < 0) :
    Calls Tryd.prog 22 #[p, .agg cs.toArray] w fun e w' => e = .returned (.int .i64 3) ∧ Step [] id id w w' := by
  obtain ⟨s0, ba, bn, bc, fa, fn, fc, la, ln, lc, hcs, -⟩ := hx.six
  obtain ⟨n0, hn0⟩ : ∃ k, k = x.num := ⟨_, rfl⟩
  obtain ⟨k0, hk0⟩ : ∃ k, k = x.kind := ⟨_, rfl⟩
  rw [← hk0, ← hn0] at hcs
  subst hcs
  obtain ⟨W1, hW1⟩ : ∃ W1, W1 = w.alloc (.cells #[.int .i64 k0, .int .i64 n0, .string s0, .slice ba bn bc, .slice fa fn fc, .slice la ln lc] 32) := ⟨_, rfl⟩
  obtain ⟨W2, hW2⟩ : ∃ W2, W2 = W1.alloc (.cells #[.int .i64 k0, .int .i64 n0, .string s0, .slice ba bn bc, .slice fa fn fc, .slice la ln lc] 32) := ⟨_, rfl⟩
  have hs1 : Step [] id id w W1 := by rw [hW1]; exact Step.alloc _
  have hs2 : Step [] id id w W2 := by rw [hW2]; exact hs1.tail (Step.alloc _)
  have z1 : W1.heap.size = w.heap.size + 1 := by rw [hW1]; simp
  have hB := heap_alloc_new W1 (.cells #[.int .i64 k0, .int .i64 n0, .string s0, .slice ba bn bc, .slice fa fn fc, .slice la ln lc] 32)
  rw [← hW2, z1] at hB
  have hV1 : W1.heap[w.heap.size]? = some (.cells #[.int .i64 k0, .int .i64 n0, .string s0, .slice ba bn bc, .slice fa fn fc, .slice la ln lc] 32 (0, 0)) := by rw [hW1]; exact heap_alloc_new w _
  have hV2 : W2.heap[w.heap.size]? = some (.cells #[.int .i64 k0, .int .i64 n0, .string s0, .slice ba bn bc, .slice fa fn fc, .slice la ln lc] 32 (0, 0)) := by rw [hW2]; exact alloc_old hV1
  have hown := acc_own (vis_list1 (hx.low.onto hs2) hB (lt_of_block hB)) (ht.step hs2)
  have hkb : (k0 == 0) = false := by rw [beq_eq_false_iff_ne, hk0]; exact hk
  have hNr := ownV_range (listV [x])
  obtain ⟨N, hN⟩ : ∃ N, N = ownV (listV [x]) := ⟨_, rfl⟩
  rw [← hN] at hown hb hNr
  have hownH := Lib.hid hown
  have hs2H := Lib.hid hs2
  have hV2H := Lib.hid hV2
  have hW1H := Lib.hid hW1
  have hW2H := Lib.hid hW2
  have hNb : decide (N < 0) = true := decide_eq_true hb
  clear hx ht hs1 hs2 z1 hB hV1 hV2 hown hk hk0 hn0 hN hW1 hW2 hNr
  go_enter Tryd.func22, Tryd.ntmps22
  go_wp2_with fail
  rw [← hW1H.out, ← hW2H.out]
  refine hownH.out.mono ?_
  rintro e w3 ⟨rfl, hs3⟩
  have hs3H := Lib.hid (hs2H.out.tail hs3)
  clear hs3
  go_wp2_with fail
  go_ret
  exact ⟨rfl, hs3H.out⟩
set_option maxRecDepth 100000 in
set_option maxHeartbeats 4000000 in
/-- What would be too long. -/
theorem push_long {P Q : Nat → Prop} {w : World} {S : Nat} {K many size : Int} {l : List Val} {row : Option Nat} {x : Val} {cs : List Value} (h : AccL P w S K many l size row) (hx : VIs Q w x cs) (ht : Tw w) (hk : x.kind ≠ 0) (hb : ¬ ownV (listV [x]) < 0) (hlong : size + moreV x l.length + 7 > 65536) :
    Calls Tryd.prog 22 #[.pointer (some ⟨S, 0, none⟩), .agg cs.toArray] w fun e w' => e = .returned (.int .i64 3) ∧ Step [] id id w w' := by
  obtain ⟨s0, ba, bn, bc, fa, fn, fc, la, ln, lc, hcs, -⟩ := hx.six
  obtain ⟨n0, hn0⟩ : ∃ k, k = x.num := ⟨_, rfl⟩
  obtain ⟨k0, hk0⟩ : ∃ k, k = x.kind := ⟨_, rfl⟩
  rw [← hk0, ← hn0] at hcs
  subst hcs
  obtain ⟨W1, hW1⟩ : ∃ W1, W1 = w.alloc (.cells #[.int .i64 k0, .int .i64 n0, .string s0, .slice ba bn bc, .slice fa fn fc, .slice la ln lc] 32) := ⟨_, rfl⟩
  obtain ⟨W2, hW2⟩ : ∃ W2, W2 = W1.alloc (.cells #[.int .i64 k0, .int .i64 n0, .string s0, .slice ba bn bc, .slice fa fn fc, .slice la ln lc] 32) := ⟨_, rfl⟩
  have hs1 : Step [] id id w W1 := by rw [hW1]; exact Step.alloc _
  have hs2 : Step [] id id w W2 := by rw [hW2]; exact hs1.tail (Step.alloc _)
  have z1 : W1.heap.size = w.heap.size + 1 := by rw [hW1]; simp
  have hB := heap_alloc_new W1 (.cells #[.int .i64 k0, .int .i64 n0, .string s0, .slice ba bn bc, .slice fa fn fc, .slice la ln lc] 32)
  rw [← hW2, z1] at hB
  have hV1 : W1.heap[w.heap.size]? = some (.cells #[.int .i64 k0, .int .i64 n0, .string s0, .slice ba bn bc, .slice fa fn fc, .slice la ln lc] 32 (0, 0)) := by rw [hW1]; exact heap_alloc_new w _
  have hV2 : W2.heap[w.heap.size]? = some (.cells #[.int .i64 k0, .int .i64 n0, .string s0, .slice ba bn bc, .slice fa fn fc, .slice la ln lc] 32 (0, 0)) := by rw [hW2]; exact alloc_old hV1
  have hown := acc_own (vis_list1 (hx.low.onto hs2) hB (lt_of_block hB)) (ht.step hs2)
  have hkb : (k0 == 0) = false := by rw [beq_eq_false_iff_ne, hk0]; exact hk
  have hNr := ownV_range (listV [x])
  obtain ⟨N, hN⟩ : ∃ N, N = ownV (listV [x]) := ⟨_, rfl⟩
  rw [← hN] at hown hb hNr
  have hownH := Lib.hid hown
  have hs2H := Lib.hid hs2
  have hV2H := Lib.hid hV2
  have hW1H := Lib.hid hW1
  have hW2H := Lib.hid hW2
  obtain ⟨va, vc, xs, hst, hrow, hown0, hL, hrS, hPr, hls, hsz⟩ := h
  obtain ⟨n, hn⟩ : ∃ n, n = l.length := ⟨_, rfl⟩
  rw [← hn] at hown0 hst hls hrow
  obtain ⟨IT, hIT⟩ : ∃ IT, IT = strOf (itoa n) := ⟨_, rfl⟩
  obtain ⟨D, hD⟩ : ∃ D, D = (itoa n).length := ⟨_, rfl⟩
  have hsz2 : IT.size = D := by rw [hIT, hD, strOf_size]
  have hDl : D ≤ 20 := by rw [hD]; exact itoa_length 19 n (by omega)
  have hit := Lib.hid (show ∀ W, Step [] id id w W → Calls Tryd.prog 31 #[.int .i64 n] W fun e w' => e = .returned (.string IT) ∧ Step [] id id W w' from fun W hs => by
    rw [hIT]
    exact (bs_itoa n W (by omega) (ht.step hs).pow).mono fun e w' h => ⟨h.1, .grown h.2 (fun _ h => by cases h)⟩)
  have how := Lib.hid (show ∀ (W : World), Step [] id id w W → Calls Tryd.prog 23 #[.agg #[.int .i64 7, .int .i64 0, (.string ⟨#[]⟩), (.slice none 0 0), (.slice none 0 0), (.slice none 0 0)]] W fun e w' => e = .returned (.int .i64 5) ∧ Step [] id id W w' from fun W hs => (acc_own (P := fun _ => True) vis_list0 (ht.step hs)).mono fun e w' h => ⟨by rw [h.1, own_list0], h.2⟩)
  have hM : moreV x n = N + ((D : Int) - 1 - 5) := by unfold moreV; rw [← hN, ← hD]; omega
  have hw1 : IntKind.i64.wrap ((D : Int) - 1) = (D : Int) - 1 := IntWalk.i64_in _ (by omega)
  have hw2 : IntKind.i64.wrap ((D : Int) - 1 - 5) = (D : Int) - 1 - 5 := IntWalk.i64_in _ (by omega)
  have hNb : decide (N < 0) = false := decide_eq_false hb
  rw [← hn, hM] at hlong
  obtain ⟨M, hMM⟩ : ∃ M, M = N + ((D : Int) - 1 - 5) := ⟨_, rfl⟩
  have hMr : 0 ≤ M + 7 ∧ M ≤ 70000 := by omega
  rw [← hMM] at hlong
  have hw3 : IntKind.i64.wrap (N + ((D : Int) - 1 - 5)) = M := by rw [hMM]; exact IntWalk.i64_in _ (by omega)
  have hw4 : IntKind.i64.wrap (size + M) = size + M := IntWalk.i64_in _ (by omega)
  have hw5 : IntKind.i64.wrap (size + M + 7) = size + M + 7 := IntWalk.i64_in _ (by omega)
  have hstH := Lib.hid hst
  have hLb : decide (size + M + 7 > 65536) = true := decide_eq_true hlong
  clear hx ht hs1 hs2 z1 hB hV1 hV2 hown hk hk0 hn0 hN hW1 hW2 hNr hst hrow hown0 hL hrS hPr hn hIT hD hM hMM hMr hb hlong hDl
  go_enter Tryd.func22, Tryd.ntmps22
  go_wp2_with fail
  rw [← hW1H.out, ← hW2H.out]
  refine hownH.out.mono ?_
  rintro e w3 ⟨rfl, hs3⟩
  have hs03 := hs2H.out.tail hs3
  have hS3 := hs03.at hstH.out (by simp)
  have c7 := cell_blk hS3 (i := 7) rfl
  have l3 := lt_of_block hS3
  have hV3H := Lib.hid (hs3.at hV2H.out (by simp))
  have hs03H := Lib.hid hs03
  clear hs3 hs03 hS3
  go_wp2_with fail
  refine (hit.out _ hs03H.out).mono ?_
  rintro e w4 ⟨rfl, hs4⟩
  have hs4H := Lib.hid hs4
  clear hs4
  go_wp2_with fail
  refine (how.out _ (hs03H.out.tail hs4H.out)).mono ?_
  rintro e w5 ⟨rfl, hs5⟩
  have hs05 := (hs03H.out.tail hs4H.out).tail hs5
  have hS5 := hs05.at hstH.out (by simp)
  have hV5 := (hs4H.out.tail hs5).at hV3H.out (by simp)
  have hS5H := Lib.hid hS5
  have hV5H := Lib.hid hV5
  have hs05H := Lib.hid hs05
  have c8 := cell_blk hS5 (i := 8) rfl
  have f5 := free_blk hS5
  have l5 := lt_of_block hS5
  clear hs5 hs05 hS5 hV5
  go_wp2_with fail
  go_ret
  exact ⟨rfl, hs05H.out⟩
end Go.Proofs.YtembpajlllnncaaDoor
