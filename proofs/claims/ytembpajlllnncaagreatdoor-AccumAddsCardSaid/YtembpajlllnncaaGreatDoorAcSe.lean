/- Accumulators: a set takes a value. -/
import Derived.Test.YtembpajlllnncaaGreatDoorAcPw
set_option linter.unusedVariables false
set_option linter.unusedSimpArgs false
namespace Go.Proofs.YtembpajlllnncaaGreatDoor
open Go.RowKit

set_option maxRecDepth 100000 in
set_option maxHeartbeats 4000000 in
/-- A set: is one of its values alike nothing is done; else it is pushed. -/
theorem acc_set {P Q : Nat → Prop} {w : World} {S : Nat} {K many size : Int} {l : List Val} {row : Option Nat} {x : Val} {cs : List Value} {R : Ending → World → Prop} (h : AccL P w S K many l size row) (hx : VIs Q w x cs)
  (hcm : ∀ (j : Nat) (hj : j < l.length) (W : World) (ds : List Value) (Q' : Nat → Prop), Step [] id id w W → VIs Q' W l[j] ds → Calls Tryz.prog 42 #[.agg ds.toArray, .agg cs.toArray] W fun e w' => e = .returned (.int .i64 (cmpV l[j] x)) ∧ Step [] id id W w')
  (hfound : x.kind ≠ 0 → (∃ (j : Nat) (hj : j < l.length), cmpV l[j] x = 0) → ∀ W, Step [] id id w W → R (.returned (.int .i64 0)) W)
  (hpush : (x.kind = 0 ∨ ∀ (j : Nat) (hj : j < l.length), cmpV l[j] x ≠ 0) → ∀ W, Step [] id id w W → Calls Tryz.prog 27 #[.pointer (some ⟨S, 0, none⟩), .agg cs.toArray] W fun e w' => (∃ v, e = .returned v) ∧ R e w') :
  Calls Tryz.prog 29 #[.pointer (some ⟨S, 0, none⟩), .agg cs.toArray] w R := by
 obtain ⟨va, vc, xs, hst, hrow, hown0, hL, hrS, hPr, hls, hsz⟩ := h
 obtain ⟨n, hn⟩ : ∃ n, n = l.length := ⟨_, rfl⟩
 rw [← hn] at hown0 hst hls hrow
 obtain ⟨s0, ba, bn, bc, fa, fn, fc, la, ln, lc, hcs, -⟩ := hx.six
 obtain ⟨n0, hn0⟩ : ∃ k, k = x.num := ⟨_, rfl⟩
 obtain ⟨k0, hk0⟩ : ∃ k, k = x.kind := ⟨_, rfl⟩
 rw [← hk0, ← hn0] at hcs
 rw [← hk0] at hfound hpush
 subst hcs
 obtain ⟨W1, hW1⟩ : ∃ W1, W1 = w.alloc (.cells #[.int .i64 k0, .int .i64 n0, .string s0, .slice ba bn bc, .slice fa fn fc, .slice la ln lc] 35) := ⟨_, rfl⟩
 have hs1 : Step [] id id w W1 := by rw [hW1]; exact Step.alloc _
 have hS1 := hs1.at hst (by simp)
 have c7 := cell_blk hS1 (i := 7) rfl
 have hV1 : W1.heap[w.heap.size]? = some (.cells #[.int .i64 k0, .int .i64 n0, .string s0, .slice ba bn bc, .slice fa fn fc, .slice la ln lc] 35 (0, 0)) := by rw [hW1]; exact heap_alloc_new w _
 have lS := lt_of_block hst
 have hn6 : n ≤ 65536 := by omega
 have hV1H := Lib.hid hV1
 have hs1H := Lib.hid hs1
 have hW1H := Lib.hid hW1
 have hcmH := Lib.hid hcm
 have hfH := Lib.hid hfound
 have hpH := Lib.hid hpush
 have hLH := Lib.hid hL
 have hownH := Lib.hid hown0
 have hnH := Lib.hid hn
 have c7' := cell_blk hst (i := 7) rfl
 clear hst hrow hL hrS hPr hls hsz hx hcm hfound hpush hn0 hk0 hs1 hS1 hV1 hW1 hown0 hn
 go_enter Tryz.func29, Tryz.ntmps29
 go_wp2_with fail
 rw [← hW1H.out]
 go_loopw [13] (fun i wr => ∃ j : Nat, i = .int .i64 j ∧ j ≤ n ∧ Step [] id id W1 wr ∧ (k0 = 0 ∨ ∀ (q : Nat) (hq : q < l.length), q < j → cmpV l[q] x ≠ 0)) (fun i _ => n - (intOf i).toNat)
 case atStart => exact ⟨0, rfl, Nat.zero_le _, Step.refl _ _ _, .inr (fun q _ h => absurd h (Nat.not_lt_zero _))⟩
 case round =>
  obtain ⟨j, rfl, hj, hst, hno⟩ := hrel
  have hs0r := hs1H.out.tail hst
  have hVr := hst.at hV1H.out (by simp)
  obtain ⟨b0, b1, b2, b3, b4, b5⟩ := cells6A hVr
  have hstH := Lib.hid hst
  have hnoH := Lib.hid hno
  have hVrH := Lib.hid hVr
  have hlV : w.heap.size < wr.heap.size := lt_of_block hVr
  by_cases hjn : j < n
  ·have hjn1 : (j : Int) < (n : Int) := by omega
   obtain ⟨g, o, hva⟩ : ∃ g, ∃ o : Nat, va = some ⟨g, 0, none⟩ := by
    rcases hownH.out.2 with ⟨e, -⟩ | ⟨g, cap, cur, e, -⟩
    ·injection e with _ e2 _; omega
    ·injection e with e1 _ _; exact ⟨g, 0, e1⟩
   subst hva
   have hjl : j < l.length := by rw [← hnH.out]; exact hjn
   have hownr := ownsRow_step hownH.out hs0r (fun k _ => by simp)
   have hxj := (hLH.out.2 j hjl).below.keep (P2 := fun _ => True) (w' := wr) (fun _ _ => trivial) (fun k hk hl => (hs0r.keep k hl (by simp)).2)
   obtain ⟨ds, hpc⟩ : ∃ ds, ds = piece 6 xs j := ⟨_, rfl⟩
   rw [← hpc] at hxj
   obtain ⟨s1, ba2, bn2, bc2, fa2, fn2, fc2, la2, ln2, lc2, hds, -⟩ := hxj.six
   obtain ⟨n1, hn1⟩ : ∃ k, k = l[j].num := ⟨_, rfl⟩
   obtain ⟨k1, hk1⟩ : ∃ k, k = l[j].kind := ⟨_, rfl⟩
   rw [← hk1, ← hn1] at hds
   subst hds
   have hq' : ∀ t u, t < 6 → [Value.int .i64 k1, .int .i64 n1, .string s1, .slice ba2 bn2 bc2, .slice fa2 fn2 fc2, .slice la2 ln2 lc2][t]? = some u → wr.cell? ⟨g, j * 6 + t, none⟩ = some u := fun t u ht hu => by
    have h8 := World.ownsRow.cells hownr (g := g) rfl (j * 6 + t) u (by rw [← piece_get 6 xs j t ht, ← hpc]; exact hu)
    rw [addr_add, Nat.zero_add] at h8
    exact h8
   have q0 : wr.cell? ⟨g, j * 6, none⟩ = some (.int .i64 k1) := hq' 0 _ (by omega) rfl
   have q1 := hq' 1 _ (by omega) rfl
   have q2 := hq' 2 _ (by omega) rfl
   have q3 := hq' 3 _ (by omega) rfl
   have q4 := hq' 4 _ (by omega) rfl
   have q5 := hq' 5 _ (by omega) rfl
   have hgr : g < wr.heap.size := World.block_lt_of_cell? wr _ q0
   have hwrap : IntKind.i64.wrap ((j : Int) + 1) = (j : Int) + 1 := IntWalk.i64_in _ (by omega)
   obtain ⟨W2, hW2⟩ : ∃ W2, W2 = wr.alloc (.cells #[.int .i64 k1, .int .i64 n1, .string s1, .slice ba2 bn2 bc2, .slice fa2 fn2 fc2, .slice la2 ln2 lc2] 35) := ⟨_, rfl⟩
   have hs2 : Step [] id id wr W2 := by rw [hW2]; exact Step.alloc _
   have hcj := Lib.hid (hcmH.out j hjl W2 _ _ (hs0r.tail hs2) (hxj.below.keep (P2 := fun _ => True) (fun _ _ => trivial) (fun k hk hl => (hs2.keep k hl (by simp)).2)))
   obtain ⟨C, hC⟩ : ∃ C, C = cmpV l[j] x := ⟨_, rfl⟩
   rw [← hC] at hcj
   have hCH := Lib.hid hC
   have hs2H := Lib.hid hs2
   have hW2H := Lib.hid hW2
   have hs0rH := Lib.hid hs0r
   clear hst hno hVr hxj hpc hn1 hk1 hq' hownr hs0r hW2 hs2 hC
   by_cases hk : k0 = 0
   ·have hkb : (k0 != 0) = false := by rw [hk]; rfl
    go_wp2_with fail
    go_roundw
    case rel => exact ⟨j + 1, by go_num, by omega, by rw [← hW2H.out]; exact hstH.out.tail hs2H.out, .inl hk⟩
    case measure => simp [intOf]; omega
   ·have hkb : (k0 != 0) = true := by rw [bne_iff_ne]; exact hk
    go_wp2_with fail
    rw [← hW2H.out]
    refine hcj.out.mono ?_
    rintro e w4 ⟨rfl, hs4⟩
    have hs4H := Lib.hid hs4
    clear hs4
    by_cases hC0 : C = 0
    ·have hCb : (C == 0) = true := by rw [hC0]; rfl
     go_wp2_with fail
     exact hfH.out hk ⟨j, hjl, by rw [← hCH.out]; exact hC0⟩ _ ((hs0rH.out.tail hs2H.out).tail hs4H.out)
    ·have hCb : (C == 0) = false := by rw [beq_eq_false_iff_ne]; exact hC0
     go_wp2_with fail
     go_roundw
     case rel =>
      refine ⟨j + 1, by go_num, by omega, (hstH.out.tail hs2H.out).tail hs4H.out, .inr (fun q hq hqj => ?_)⟩
      by_cases hqe : q = j
      ·subst hqe; rw [← hCH.out]; exact hC0
      ·exact (hnoH.out.resolve_left hk) q hq (by omega)
     case measure => simp [intOf]; omega
  ·have hjn1 : ¬ (j : Int) < (n : Int) := by omega
   obtain rfl : j = n := by omega
   have hs0rH := Lib.hid hs0r
   clear hst hno hVr hs0r
   go_wp2_with fail
   have hpp : k0 = 0 ∨ ∀ (q : Nat) (hq : q < l.length), cmpV l[q] x ≠ 0 := hnoH.out.imp id (fun h q hq => h q hq (by rw [hnH.out]; exact hq))
   refine (hpH.out hpp _ hs0rH.out).mono ?_
   rintro e w5 ⟨⟨v, rfl⟩, hR⟩
   have hRH := Lib.hid hR
   clear hR
   go_wp2_with fail
   exact hRH.out
end Go.Proofs.YtembpajlllnncaaGreatDoor
