/- Accumulators: push. Accumulators: push: what is not pushed. Accumulators: push: what it comes to, plain. -/
import Derived.Test.YtembpajlllnncaaGreatDoorAcZ
import Derived.Test.YtembpajlllnncaaGreatDoorAcQ
set_option linter.unusedVariables false
set_option linter.unusedSimpArgs false
namespace Go.Proofs.YtembpajlllnncaaGreatDoor
open Go.RowKit

/-- A list's, a set's state: what it keeps lies in a row of its own. -/
def AccL (P : Nat → Prop) (w : World) (S : Nat) (K many : Int) (l : List Val) (size : Int) (row : Option Nat) : Prop :=
 ∃ va vc xs, StC w S K many (.int .i64 7) (.int .i64 0) (.string ⟨#[]⟩) (.slice none 0 0) (.slice none 0 0) (.slice va l.length vc) size false ∧ row = (Value.slice va l.length vc).ownBlock ∧ w.ownsRow 0 35 6 (.slice va l.length vc) l.length xs ∧
  LRow (fun _ k => P k ∧ k ≠ S ∧ row ≠ some k) w l xs ∧ row ≠ some S ∧ (∀ k, row = some k → P k) ∧ (l.length : Int) ≤ size ∧ size ≤ 65536
theorem ownV_list {x : Val} (h : ¬ ownV (listV [x]) < 0) : 8 ≤ ownV (listV [x]) := by
 unfold ownV at h ⊢
 unfold sizeOf_ at h ⊢
 by_cases hk : okDoc (.mk 6 0 [] [] [([], listV [x])] []) = true
 ·rw [if_pos hk] at h ⊢
  rw [wrapDoc_length]
  have h1 : encV (listV [x]) = wrapDoc (encLs 0 [x]) := by
   unfold listV
   rw [encV, if_neg (by omega), if_neg (by omega), if_neg (by omega), if_neg (by omega), if_neg (by omega), if_neg (by omega), if_pos rfl]
  have h2 : 3 ≤ (encLs 0 [x]).length := by
   have : 1 ≤ (itoa 0).length := by unfold itoa; simp
   simp only [encLs, List.length_cons, List.length_append, List.length_nil]
   omega
  have h3 := wrapDoc_length (encLs 0 [x])
  simp only [Val.f, encFs, List.length_cons, List.length_append, List.length_nil, h1]
  omega
 ·rw [if_neg hk] at h; simp at h
end Go.Proofs.YtembpajlllnncaaGreatDoor
namespace Go.Proofs.YtembpajlllnncaaGreatDoor
open Go.RowKit

set_option maxRecDepth 100000 in
/-- Missing is let pass. -/
theorem push_none {w : World} {p n s b f l : Value} : Calls Tryz.prog 27 #[p, .agg #[.int .i64 0, n, s, b, f, l]] w fun e w' => e = .returned (.int .i64 0) ∧ Step [] id id w w' := by
 go_enter Tryz.func27, Tryz.ntmps27
 go_wp2_with fail
 go_ret
 exact ⟨rfl, Step.alloc _⟩
set_option maxRecDepth 100000 in
set_option maxHeartbeats 4000000 in
/-- What may not be. -/
theorem push_bad {P : Nat → Prop} {w : World} {p : Value} {x : Val} {cs : List Value} (hx : VIs P w x cs) (ht : Tw w) (hk : x.kind ≠ 0) (hb : ownV (listV [x]) < 0) :
  Calls Tryz.prog 27 #[p, .agg cs.toArray] w fun e w' => e = .returned (.int .i64 3) ∧ Step [] id id w w' := by
 obtain ⟨s0, ba, bn, bc, fa, fn, fc, la, ln, lc, hcs, -⟩ := hx.six
 obtain ⟨n0, hn0⟩ : ∃ k, k = x.num := ⟨_, rfl⟩
 obtain ⟨k0, hk0⟩ : ∃ k, k = x.kind := ⟨_, rfl⟩
 rw [← hk0, ← hn0] at hcs
 subst hcs
 obtain ⟨W1, hW1⟩ : ∃ W1, W1 = w.alloc (.cells #[.int .i64 k0, .int .i64 n0, .string s0, .slice ba bn bc, .slice fa fn fc, .slice la ln lc] 35) := ⟨_, rfl⟩
 obtain ⟨W2, hW2⟩ : ∃ W2, W2 = W1.alloc (.cells #[.int .i64 k0, .int .i64 n0, .string s0, .slice ba bn bc, .slice fa fn fc, .slice la ln lc] 35) := ⟨_, rfl⟩
 have hs1 : Step [] id id w W1 := by rw [hW1]; exact Step.alloc _
 have hs2 : Step [] id id w W2 := by rw [hW2]; exact hs1.tail (Step.alloc _)
 have z1 : W1.heap.size = w.heap.size + 1 := by rw [hW1]; simp
 have hB := heap_alloc_new W1 (.cells #[.int .i64 k0, .int .i64 n0, .string s0, .slice ba bn bc, .slice fa fn fc, .slice la ln lc] 35)
 rw [← hW2, z1] at hB
 have hV1 : W1.heap[w.heap.size]? = some (.cells #[.int .i64 k0, .int .i64 n0, .string s0, .slice ba bn bc, .slice fa fn fc, .slice la ln lc] 35 (0, 0)) := by rw [hW1]; exact heap_alloc_new w _
 have hV2 : W2.heap[w.heap.size]? = some (.cells #[.int .i64 k0, .int .i64 n0, .string s0, .slice ba bn bc, .slice fa fn fc, .slice la ln lc] 35 (0, 0)) := by rw [hW2]; exact alloc_old hV1
 have hown := acc_own (vis_list1 (hx.low.onto hs2) hB (lt_of_block hB)) (ht.step hs2)
 have hkb : (k0 == 0) = false := by rw [beq_eq_false_iff_ne, hk0]; exact hk
 have hNr := ownV_range (listV [x])
 obtain ⟨N, hN⟩ : ∃ N, N = ownV (listV [x]) := ⟨_, rfl⟩
 rw [← hN] at hown hb hNr
 have hownH := Lib.hid hown
 have hs2H := Lib.hid hs2
 have hV2H := Lib.hid hV2
 have hW1H := Lib.hid hW1
 have hW2H := Lib.hid hW2
 have hNb : decide (N < 0) = true := decide_eq_true hb
 clear hx ht hs1 hs2 z1 hB hV1 hV2 hown hk hk0 hn0 hN hW1 hW2 hNr
 go_enter Tryz.func27, Tryz.ntmps27
 go_wp2_with fail
 rw [← hW1H.out, ← hW2H.out]
 refine hownH.out.mono ?_
 rintro e w3 ⟨rfl, hs3⟩
 have hs3H := Lib.hid (hs2H.out.tail hs3)
 clear hs3
 go_wp2_with fail
 go_ret
 exact ⟨rfl, hs3H.out⟩
set_option maxRecDepth 100000 in
set_option maxHeartbeats 4000000 in
/-- What would be too long. -/
theorem push_long {P Q : Nat → Prop} {w : World} {S : Nat} {K many size : Int} {l : List Val} {row : Option Nat} {x : Val} {cs : List Value} (h : AccL P w S K many l size row) (hx : VIs Q w x cs) (ht : Tw w) (hk : x.kind ≠ 0) (hb : ¬ ownV (listV [x]) < 0) (hlong : size + moreV x l.length + 7 > 65536) :
  Calls Tryz.prog 27 #[.pointer (some ⟨S, 0, none⟩), .agg cs.toArray] w fun e w' => e = .returned (.int .i64 3) ∧ Step [] id id w w' := by
 obtain ⟨s0, ba, bn, bc, fa, fn, fc, la, ln, lc, hcs, -⟩ := hx.six
 obtain ⟨n0, hn0⟩ : ∃ k, k = x.num := ⟨_, rfl⟩
 obtain ⟨k0, hk0⟩ : ∃ k, k = x.kind := ⟨_, rfl⟩
 rw [← hk0, ← hn0] at hcs
 subst hcs
 obtain ⟨W1, hW1⟩ : ∃ W1, W1 = w.alloc (.cells #[.int .i64 k0, .int .i64 n0, .string s0, .slice ba bn bc, .slice fa fn fc, .slice la ln lc] 35) := ⟨_, rfl⟩
 obtain ⟨W2, hW2⟩ : ∃ W2, W2 = W1.alloc (.cells #[.int .i64 k0, .int .i64 n0, .string s0, .slice ba bn bc, .slice fa fn fc, .slice la ln lc] 35) := ⟨_, rfl⟩
 have hs1 : Step [] id id w W1 := by rw [hW1]; exact Step.alloc _
 have hs2 : Step [] id id w W2 := by rw [hW2]; exact hs1.tail (Step.alloc _)
 have z1 : W1.heap.size = w.heap.size + 1 := by rw [hW1]; simp
 have hB := heap_alloc_new W1 (.cells #[.int .i64 k0, .int .i64 n0, .string s0, .slice ba bn bc, .slice fa fn fc, .slice la ln lc] 35)
 rw [← hW2, z1] at hB
 have hV1 : W1.heap[w.heap.size]? = some (.cells #[.int .i64 k0, .int .i64 n0, .string s0, .slice ba bn bc, .slice fa fn fc, .slice la ln lc] 35 (0, 0)) := by rw [hW1]; exact heap_alloc_new w _
 have hV2 : W2.heap[w.heap.size]? = some (.cells #[.int .i64 k0, .int .i64 n0, .string s0, .slice ba bn bc, .slice fa fn fc, .slice la ln lc] 35 (0, 0)) := by rw [hW2]; exact alloc_old hV1
 have hown := acc_own (vis_list1 (hx.low.onto hs2) hB (lt_of_block hB)) (ht.step hs2)
 have hkb : (k0 == 0) = false := by rw [beq_eq_false_iff_ne, hk0]; exact hk
 have hNr := ownV_range (listV [x])
 obtain ⟨N, hN⟩ : ∃ N, N = ownV (listV [x]) := ⟨_, rfl⟩
 rw [← hN] at hown hb hNr
 have hownH := Lib.hid hown
 have hs2H := Lib.hid hs2
 have hV2H := Lib.hid hV2
 have hW1H := Lib.hid hW1
 have hW2H := Lib.hid hW2
 obtain ⟨va, vc, xs, hst, hrow, hown0, hL, hrS, hPr, hls, hsz⟩ := h
 obtain ⟨n, hn⟩ : ∃ n, n = l.length := ⟨_, rfl⟩
 rw [← hn] at hown0 hst hls hrow
 obtain ⟨IT, hIT⟩ : ∃ IT, IT = strOf (itoa n) := ⟨_, rfl⟩
 obtain ⟨D, hD⟩ : ∃ D, D = (itoa n).length := ⟨_, rfl⟩
 have hsz2 : IT.size = D := by rw [hIT, hD, strOf_size]
 have hDl : D ≤ 20 := by rw [hD]; exact itoa_length 19 n (by omega)
 have hit := Lib.hid (show ∀ W, Step [] id id w W → Calls Tryz.prog 40 #[.int .i64 n] W fun e w' => e = .returned (.string IT) ∧ Step [] id id W w' from fun W hs => by
  rw [hIT]
  exact (bs_itoa n W (by omega) (ht.step hs).pow).mono fun e w' h => ⟨h.1, .grown h.2 (fun _ h => by cases h)⟩)
 have how := Lib.hid (show ∀ (W : World), Step [] id id w W → Calls Tryz.prog 28 #[.agg #[.int .i64 7, .int .i64 0, (.string ⟨#[]⟩), (.slice none 0 0), (.slice none 0 0), (.slice none 0 0)]] W fun e w' => e = .returned (.int .i64 5) ∧ Step [] id id W w' from fun W hs => (acc_own (P := fun _ => True) vis_list0 (ht.step hs)).mono fun e w' h => ⟨by rw [h.1, own_list0], h.2⟩)
 have hM : moreV x n = N + ((D : Int) - 1 - 5) := by unfold moreV; rw [← hN, ← hD]; omega
 have hw1 : IntKind.i64.wrap ((D : Int) - 1) = (D : Int) - 1 := IntWalk.i64_in _ (by omega)
 have hw2 : IntKind.i64.wrap ((D : Int) - 1 - 5) = (D : Int) - 1 - 5 := IntWalk.i64_in _ (by omega)
 have hNb : decide (N < 0) = false := decide_eq_false hb
 rw [← hn, hM] at hlong
 obtain ⟨M, hMM⟩ : ∃ M, M = N + ((D : Int) - 1 - 5) := ⟨_, rfl⟩
 have hMr : 0 ≤ M + 7 ∧ M ≤ 70000 := by omega
 rw [← hMM] at hlong
 have hw3 : IntKind.i64.wrap (N + ((D : Int) - 1 - 5)) = M := by rw [hMM]; exact IntWalk.i64_in _ (by omega)
 have hw4 : IntKind.i64.wrap (size + M) = size + M := IntWalk.i64_in _ (by omega)
 have hw5 : IntKind.i64.wrap (size + M + 7) = size + M + 7 := IntWalk.i64_in _ (by omega)
 have hstH := Lib.hid hst
 have hLb : decide (size + M + 7 > 65536) = true := decide_eq_true hlong
 clear hx ht hs1 hs2 z1 hB hV1 hV2 hown hk hk0 hn0 hN hW1 hW2 hNr hst hrow hown0 hL hrS hPr hn hIT hD hM hMM hMr hb hlong hDl
 go_enter Tryz.func27, Tryz.ntmps27
 go_wp2_with fail
 rw [← hW1H.out, ← hW2H.out]
 refine hownH.out.mono ?_
 rintro e w3 ⟨rfl, hs3⟩
 have hs03 := hs2H.out.tail hs3
 have hS3 := hs03.at hstH.out (by simp)
 have c7 := cell_blk hS3 (i := 7) rfl
 have l3 := lt_of_block hS3
 have hV3H := Lib.hid (hs3.at hV2H.out (by simp))
 have hs03H := Lib.hid hs03
 clear hs3 hs03 hS3
 go_wp2_with fail
 refine (hit.out _ hs03H.out).mono ?_
 rintro e w4 ⟨rfl, hs4⟩
 have hs4H := Lib.hid hs4
 clear hs4
 go_wp2_with fail
 refine (how.out _ (hs03H.out.tail hs4H.out)).mono ?_
 rintro e w5 ⟨rfl, hs5⟩
 have hs05 := (hs03H.out.tail hs4H.out).tail hs5
 have hS5 := hs05.at hstH.out (by simp)
 have hV5 := (hs4H.out.tail hs5).at hV3H.out (by simp)
 have hS5H := Lib.hid hS5
 have hV5H := Lib.hid hV5
 have hs05H := Lib.hid hs05
 have c8 := cell_blk hS5 (i := 8) rfl
 have f5 := free_blk hS5
 have l5 := lt_of_block hS5
 clear hs5 hs05 hS5 hV5
 go_wp2_with fail
 go_ret
 exact ⟨rfl, hs05H.out⟩
end Go.Proofs.YtembpajlllnncaaGreatDoor
namespace Go.Proofs.YtembpajlllnncaaGreatDoor
open Go.RowKit

/-- A value was pushed. -/
def PushOK (P : Nat → Prop) (S : Nat) (K many size : Int) (l : List Val) (row : Option Nat) (x : Val) (w : World) (e : Ending) (w' : World) : Prop :=
 e = .returned (.int .i64 0) ∧ ∃ row', AccL P w' S K many (l ++ [x]) (size + moreV x l.length) row' ∧ Step (S :: row.toList) id id w w' ∧ (row' = row ∨ ∃ k, row' = some k ∧ w.heap.size ≤ k)
theorem LRow.below {P : Nat → Nat → Prop} {w : World} {l : List Val} {xs : List Value} (h : LRow P w l xs) : LRow (fun i k => P i k ∧ k < w.heap.size) w l xs :=
 ⟨h.1, fun i hi => VIs.below _ _ (h.2 i hi)⟩
theorem LRow.snoc6 {P : Nat → Prop} {w : World} {l : List Val} {xs zs : List Value} {x : Val} {d0 d1 d2 d3 d4 d5 : Value} (h : LRow (fun _ => P) w l xs) (hz : zs.length = 6) (hx : VIs P w x [d0, d1, d2, d3, d4, d5]) :
  LRow (fun _ => P) w (l ++ [x]) (setL6 (xs ++ zs) (l.length * 6) d0 d1 d2 d3 d4 d5) := by
 have hlen : (xs ++ zs).length = l.length * 6 + 6 := by rw [List.length_append, h.1, hz]
 refine ⟨by rw [setL6_len, hlen]; simp; omega, fun i hi => ?_⟩
 rw [List.length_append, List.length_singleton] at hi
 by_cases hij : i < l.length
 ·have h3 := h.2 i hij
  rw [List.getElem_append_left hij]
  rw [piece_ext (ys := xs) fun t ht => ?_]
  ·exact h3
  ·rw [setL6_far (by omega), List.getElem?_append_left (by rw [h.1]; omega)]
 ·obtain rfl : i = l.length := by omega
  have e : piece 6 (setL6 (xs ++ zs) (l.length * 6) d0 d1 d2 d3 d4 d5) l.length = [d0, d1, d2, d3, d4, d5] := piece_is rfl (fun t ht => setL6_at (by omega) t ht)
  rw [e]
  simpa using hx
theorem push_end {P : Nat → Prop} {w W6 w9 w10 Wf : World} {S : Nat} {K many size M : Int} {l : List Val} {row : Option Nat} {x : Val} {va : Option Addr} {vc : Nat} {xs zs : List Value} {g c' : Nat} {d0 d1 d2 d3 d4 d5 : Value}
  (hrow : row = (Value.slice va l.length vc).ownBlock) (hL : LRow (fun _ k => P k ∧ k ≠ S ∧ row ≠ some k) w l xs) (hrS : row ≠ some S) (hrl : ∀ k, row = some k → P k ∧ k < w.heap.size) (hls : (l.length : Int) ≤ size)
  (hM : moreV x l.length = M) (hMr : 3 ≤ M ∧ size + M ≤ 65529) (hP : ∀ k, w.heap.size ≤ k → P k) (hSl : S < w.heap.size)
  (hs6 : Step [S] id id w W6) (hS6 : StC W6 S K many (.int .i64 7) (.int .i64 0) (.string ⟨#[]⟩) (.slice none 0 0) (.slice none 0 0) (.slice va l.length vc) (size + M) false)
  (hs9 : Step [] id id W6 w9) (hxd : VIs (fun k => W6.heap.size ≤ k) w9 x [d0, d1, d2, d3, d4, d5]) (hzs : zs.length = 6)
  (hown : w10.ownsRow 0 35 6 (.slice (some ⟨g, 0, none⟩) (l.length + 1) c') (l.length + 1) (xs ++ zs)) (hg : w9.grownBy w10 (Value.slice va l.length vc).ownBlock) (hat : some g = row ∨ g = w9.heap.size)
  (hWf : Wf = (setC6 w10 g (l.length * 6) d0 d1 d2 d3 d4 d5).setCell ⟨S, 7, none⟩ (.slice (some ⟨g, 0, none⟩) (l.length + 1) c') ∨ Wf = setC6 (w10.setCell ⟨S, 7, none⟩ (.slice (some ⟨g, 0, none⟩) (l.length + 1) c')) g (l.length * 6) d0 d1 d2 d3 d4 d5) :
  AccL P Wf S K many (l ++ [x]) (size + moreV x l.length) (some g) ∧ Step (S :: row.toList) id id w Wf ∧ (some g = row ∨ ∃ k, some g = some k ∧ w.heap.size ≤ k) := by
 rw [hM]
 have z6 := hs6.size
 have z9 := hs9.size
 have z10 := hg.size
 have hgS : g ≠ S := by
  rcases hat with h | h
  ·intro e; exact hrS (by rw [← h, e])
  ·omega
 have hS10 : StC w10 S K many (.int .i64 7) (.int .i64 0) (.string ⟨#[]⟩) (.slice none 0 0) (.slice none 0 0) (.slice va l.length vc) (size + M) false := by
  have h9 := hs9.at hS6 (by simp)
  exact (hg.block S (lt_of_block h9) (by rw [← hrow]; exact fun e => hrS e.symm)).trans h9
 have hgo : w10.frozen? ⟨g, 0, none⟩ = w10.frozen? ⟨g, 0, none⟩ := rfl
 have hfin : Wf.ownsRow 0 35 6 (.slice (some ⟨g, 0, none⟩) (l.length + 1) c') (l.length + 1) (setL6 (xs ++ zs) (l.length * 6) d0 d1 d2 d3 d4 d5) ∧ StC Wf S K many (.int .i64 7) (.int .i64 0) (.string ⟨#[]⟩) (.slice none 0 0) (.slice none 0 0) (.slice (some ⟨g, 0, none⟩) (l.length + 1) c') (size + M) false ∧ Step [S, g] id id w10 Wf := by
  rcases hWf with rfl | rfl
  ·obtain ⟨h1, g1⟩ := setC6_row (o := l.length * 6) (v0 := d0) (v1 := d1) (v2 := d2) (v3 := d3) (v4 := d4) (v5 := d5) hown
   have hS11 := (g1.block S (lt_of_block hS10) (by intro e; injection e with e; exact hgS e.symm)).trans hS10
   have hset : Step [S] id id (setC6 w10 g (l.length * 6) d0 d1 d2 d3 d4 d5) ((setC6 w10 g (l.length * 6) d0 d1 d2 d3 d4 d5).setCell ⟨S, 7, none⟩ (.slice (some ⟨g, 0, none⟩) (l.length + 1) c')) := Step.set _ _ (by simp)
   refine ⟨ownsRow_step h1 hset (fun k hk => by cases hk; simpa using hgS), ?_, (Step.grown g1 (fun k hk => by cases hk; simp)).tail (hset.mono (by simp))⟩
   have h7 := set_blk hS11 7 (.slice (some ⟨g, 0, none⟩) (l.length + 1) c')
   unfold StC
   simpa using h7
  ·have hset : Step [S] id id w10 (w10.setCell ⟨S, 7, none⟩ (.slice (some ⟨g, 0, none⟩) (l.length + 1) c')) := Step.set _ _ (by simp)
   obtain ⟨h1, g1⟩ := setC6_row (o := l.length * 6) (v0 := d0) (v1 := d1) (v2 := d2) (v3 := d3) (v4 := d4) (v5 := d5) (ownsRow_step hown hset (fun k hk => by cases hk; simpa using hgS))
   have h7 := set_blk hS10 7 (.slice (some ⟨g, 0, none⟩) (l.length + 1) c')
   have h7' : (w10.setCell ⟨S, 7, none⟩ (.slice (some ⟨g, 0, none⟩) (l.length + 1) c')).heap[S]? = some (.cells #[.func (.func (addF K)) #[.pointer (some ⟨S, 0, none⟩)] #[], .int .i64 many, .int .i64 7, .int .i64 0, (.string ⟨#[]⟩), (.slice none 0 0), (.slice none 0 0), (.slice (some ⟨g, 0, none⟩) (l.length + 1) c'), .int .i64 (size + M), .bool false] 47 (0, 0)) := by simpa using h7
   refine ⟨h1, (g1.block S (lt_of_block h7') (by intro e; injection e with e; exact hgS e.symm)).trans h7', (hset.mono (by simp)).tail (Step.grown g1 (fun k hk => by cases hk; simp))⟩
 obtain ⟨hownf, hSf, hsf⟩ := hfin
 have hs9f : Step (S :: row.toList) id id w w9 := (hs6.mono (by simp)).tail (hs9.mono (fun _ h => by cases h))
 have hs10 : Step (S :: row.toList) id id w w10 := hs9f.tail (.grown hg (fun k hk => by rw [← hrow] at hk; rw [hk]; simp))
 have hst : Step (S :: row.toList) id id w Wf := hs10.tailNew hsf (fun r hr => by
  simp only [List.mem_cons, List.mem_nil_iff, or_false] at hr
  rcases hr with rfl | rfl
  ·exact .inl (by simp)
  ·rcases hat with h | h
   ·exact .inl (by rw [← h]; simp)
   ·exact .inr (by omega))
 refine ⟨⟨some ⟨g, 0, none⟩, c', _, by rw [show (l ++ [x]).length = l.length + 1 by simp]; exact hSf, rfl, by rw [show (l ++ [x]).length = l.length + 1 by simp]; exact hownf, ?_, by intro e; injection e with e; exact hgS e, ?_, by simp; omega, by omega⟩, hst, ?_⟩
 ·refine LRow.snoc6 (hL.below.keep (fun _ k hk => ⟨hk.1.1, hk.1.2.1, fun e => ?_⟩) (fun _ k hk hl => (hst.keep k hl ?_).2)) hzs ((VIs.below _ _ hxd).keep (fun k hk => ⟨hP k (by have := hk.1; omega), by have := hk.1; omega, fun e => ?_⟩) (fun k hk hl => ?_))
  ·injection e with e
   rcases hat with h | h
   ·exact hk.1.2.2 (by rw [← e, h])
   ·have := hk.2; omega
  ·rw [List.mem_cons]
   rintro (h | h)
   ·exact hk.1.2.1 h
   ·exact hk.1.2.2 (by simpa using h)
  ·have hk1 : W6.heap.size ≤ k := hk.1
   have hk2 : k < w9.heap.size := hk.2
   have hkr : row ≠ some k := fun e => by have := (hrl k e).2; omega
   have hkg : k ≠ g := by
    rcases hat with h | h
    ·intro e; exact hkr (by rw [← h, e])
    ·omega
   rw [(hsf.keep k (by omega) (by simp; exact ⟨by omega, hkg⟩)).2]
   exact hg.block k hk2 (by rw [← hrow]; exact fun e => hkr e.symm)
  ·injection e with e
   rcases hat with h | h
   ·have := (hrl g h.symm).2; have := hk.1; omega
   ·have := hk.2; omega
 ·intro k hk
  injection hk with hk
  subst hk
  rcases hat with h | h
  ·exact (hrl g h.symm).1
  ·exact hP g (by omega)
 ·rcases hat with h | h
  ·exact .inl h
  ·exact .inr ⟨g, rfl, by omega⟩
end Go.Proofs.YtembpajlllnncaaGreatDoor
