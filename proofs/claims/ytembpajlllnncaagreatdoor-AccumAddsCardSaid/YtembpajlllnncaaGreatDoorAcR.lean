/- Accumulators: the last, the first value is kept. -/
import Derived.Test.YtembpajlllnncaaGreatDoorAcQ
import Derived.Test.YtembpajlllnncaaGreatDoorAcC6
set_option linter.unusedVariables false
set_option linter.unusedSimpArgs false
namespace Go.Proofs.YtembpajlllnncaaGreatDoor
open Go.RowKit

/-- A state keeps a value now. -/
def KeepA (S : Nat) (K many : Int) (x : Val) (w : World) (e : Ending) (w' : World) : Prop :=
 e = .returned (.int .i64 0) ∧ Step [S] id id w w' ∧ ∃ d0 d1 d2 d3 d4 d5, StC w' S K many d0 d1 d2 d3 d4 d5 0 false ∧ VIs (fun k => w.heap.size ≤ k) w' x [d0, d1, d2, d3, d4, d5]
set_option maxRecDepth 100000 in
set_option maxHeartbeats 4000000 in
theorem acc_last {P : Nat → Prop} {w : World} {S : Nat} {many : Int} {v0 v1 v2 v3 v4 v5 : Value} {x : Val} {cs : List Value} (h : StC w S 5 many v0 v1 v2 v3 v4 v5 0 false) (hx : VIs P w x cs) (hw : weightV x ≤ 100000000) :
  Calls Tryz.prog 26 #[.pointer (some ⟨S, 0, none⟩), .agg cs.toArray] w (KeepA S 5 many x w) := by
 obtain ⟨s0, ba, bn, bc, fa, fn, fc, la, ln, lc, hcs, -⟩ := hx.six
 obtain ⟨n0, hn0⟩ : ∃ k, k = x.num := ⟨_, rfl⟩
 obtain ⟨k0, hk0⟩ : ∃ k, k = x.kind := ⟨_, rfl⟩
 rw [← hk0, ← hn0] at hcs
 subst hcs
 obtain ⟨W1, hW1⟩ : ∃ W1, W1 = w.alloc (.cells #[.int .i64 k0, .int .i64 n0, .string s0, .slice ba bn bc, .slice fa fn fc, .slice la ln lc] 35) := ⟨_, rfl⟩
 have hs1 : Step [] id id w W1 := by rw [hW1]; exact Step.alloc _
 have hS1 := hs1.at h (by simp)
 have hl := lt_of_block h
 have hx1 := hx.below.keep (P2 := fun _ => True) (w' := W1) (fun _ _ => trivial) (fun k hk hl => (hs1.keep k hl (by simp)).2)
 have hcp := Lib.hid (bs_copy hw hx1)
 have hx1H := Lib.hid hx1
 have hs1H := Lib.hid hs1
 have hSH := Lib.hid hS1
 have hW1H := Lib.hid hW1
 clear h hx hw hn0 hk0 hs1 hS1 hx1 hW1
 go_enter Tryz.func26, Tryz.ntmps26
 go_wp2_with fail
 rw [← hW1H.out]
 refine hcp.out.mono ?_
 rintro e w2 hC
 obtain ⟨ds, rfl, hxd, hs2⟩ := hC.is hx1H.out
 obtain ⟨s2, ba2, bn2, bc2, fa2, fn2, fc2, la2, ln2, lc2, hds, -⟩ := hxd.six
 obtain ⟨n2, hn2⟩ : ∃ k, k = x.num := ⟨_, rfl⟩
 obtain ⟨k2, hk2⟩ : ∃ k, k = x.kind := ⟨_, rfl⟩
 rw [← hk2, ← hn2] at hds
 subst hds
 have hS2 := hs2.at hSH.out (by simp)
 have fS := free_blk hS2
 have c2 := cell_blk hS2 (i := 2) rfl
 have c3 := cell_blk hS2 (i := 3) rfl
 have c4 := cell_blk hS2 (i := 4) rfl
 have c5 := cell_blk hS2 (i := 5) rfl
 have c6 := cell_blk hS2 (i := 6) rfl
 have c7 := cell_blk hS2 (i := 7) rfl
 have lS := lt_of_block hS2
 have hS2H := Lib.hid hS2
 have hxdH := Lib.hid hxd
 have hs2H := Lib.hid (hs1H.out.tail hs2)
 clear hC hxd hs2 hS2 hn2 hk2
 go_wp2_with fail
 go_ret
 have h2 := set_blk hS2H.out 2 (.int .i64 k2)
 have h3 := set_blk h2 3 (.int .i64 n2)
 have h4 := set_blk h3 4 (.string s2)
 have h5 := set_blk h4 5 (.slice ba2 bn2 bc2)
 have h6 := set_blk h5 6 (.slice fa2 fn2 fc2)
 have h7 := set_blk h6 7 (.slice la2 ln2 lc2)
 have hset : Step [S] id id w2 ((((((w2.setCell ⟨S, 2, none⟩ (.int .i64 k2)).setCell ⟨S, 3, none⟩ (.int .i64 n2)).setCell ⟨S, 4, none⟩ (.string s2)).setCell ⟨S, 5, none⟩ (.slice ba2 bn2 bc2)).setCell ⟨S, 6, none⟩ (.slice fa2 fn2 fc2)).setCell ⟨S, 7, none⟩ (.slice la2 ln2 lc2)) :=
  (((((Step.set _ _ (by simp)).tail (Step.set _ _ (by simp))).tail (Step.set _ _ (by simp))).tail (Step.set _ _ (by simp))).tail (Step.set _ _ (by simp))).tail (Step.set _ _ (by simp))
 have z1 := hs1H.out.size
 refine ⟨rfl, (hs2H.out.mono (fun _ h => by cases h)).tail hset, _, _, _, _, _, _, ?_, hxdH.out.keep (fun k hk => by omega) (fun k hk hl => (hset.keep k hl (by simp; omega)).2)⟩
 unfold StC
 simpa using h7
set_option maxRecDepth 100000 in
set_option maxHeartbeats 4000000 in
/-- The first one is kept .. -/
theorem acc_first {P : Nat → Prop} {w : World} {S : Nat} {v0 v1 v2 v3 v4 v5 : Value} {x : Val} {cs : List Value} (h : StC w S 4 0 v0 v1 v2 v3 v4 v5 0 false) (hx : VIs P w x cs) (hw : weightV x ≤ 100000000) :
  Calls Tryz.prog 25 #[.pointer (some ⟨S, 0, none⟩), .agg cs.toArray] w (KeepA S 4 0 x w) := by
 have d1 := cell_blk h (i := 1) rfl
 obtain ⟨s0, ba, bn, bc, fa, fn, fc, la, ln, lc, hcs, -⟩ := hx.six
 obtain ⟨n0, hn0⟩ : ∃ k, k = x.num := ⟨_, rfl⟩
 obtain ⟨k0, hk0⟩ : ∃ k, k = x.kind := ⟨_, rfl⟩
 rw [← hk0, ← hn0] at hcs
 subst hcs
 obtain ⟨W1, hW1⟩ : ∃ W1, W1 = w.alloc (.cells #[.int .i64 k0, .int .i64 n0, .string s0, .slice ba bn bc, .slice fa fn fc, .slice la ln lc] 35) := ⟨_, rfl⟩
 have hs1 : Step [] id id w W1 := by rw [hW1]; exact Step.alloc _
 have hS1 := hs1.at h (by simp)
 have hl := lt_of_block h
 have hx1 := hx.below.keep (P2 := fun _ => True) (w' := W1) (fun _ _ => trivial) (fun k hk hl => (hs1.keep k hl (by simp)).2)
 have hcp := Lib.hid (bs_copy hw hx1)
 have hx1H := Lib.hid hx1
 have hs1H := Lib.hid hs1
 have hSH := Lib.hid hS1
 have hW1H := Lib.hid hW1
 clear h hx hw hn0 hk0 hs1 hS1 hx1 hW1
 go_enter Tryz.func25, Tryz.ntmps25
 go_wp2_with fail
 rw [← hW1H.out]
 refine hcp.out.mono ?_
 rintro e w2 hC
 obtain ⟨ds, rfl, hxd, hs2⟩ := hC.is hx1H.out
 obtain ⟨s2, ba2, bn2, bc2, fa2, fn2, fc2, la2, ln2, lc2, hds, -⟩ := hxd.six
 obtain ⟨n2, hn2⟩ : ∃ k, k = x.num := ⟨_, rfl⟩
 obtain ⟨k2, hk2⟩ : ∃ k, k = x.kind := ⟨_, rfl⟩
 rw [← hk2, ← hn2] at hds
 subst hds
 have hS2 := hs2.at hSH.out (by simp)
 have fS := free_blk hS2
 have c2 := cell_blk hS2 (i := 2) rfl
 have c3 := cell_blk hS2 (i := 3) rfl
 have c4 := cell_blk hS2 (i := 4) rfl
 have c5 := cell_blk hS2 (i := 5) rfl
 have c6 := cell_blk hS2 (i := 6) rfl
 have c7 := cell_blk hS2 (i := 7) rfl
 have lS := lt_of_block hS2
 have hS2H := Lib.hid hS2
 have hxdH := Lib.hid hxd
 have hs2H := Lib.hid (hs1H.out.tail hs2)
 clear hC hxd hs2 hS2 hn2 hk2
 go_wp2_with fail
 go_ret
 have h2 := set_blk hS2H.out 2 (.int .i64 k2)
 have h3 := set_blk h2 3 (.int .i64 n2)
 have h4 := set_blk h3 4 (.string s2)
 have h5 := set_blk h4 5 (.slice ba2 bn2 bc2)
 have h6 := set_blk h5 6 (.slice fa2 fn2 fc2)
 have h7 := set_blk h6 7 (.slice la2 ln2 lc2)
 have hset : Step [S] id id w2 ((((((w2.setCell ⟨S, 2, none⟩ (.int .i64 k2)).setCell ⟨S, 3, none⟩ (.int .i64 n2)).setCell ⟨S, 4, none⟩ (.string s2)).setCell ⟨S, 5, none⟩ (.slice ba2 bn2 bc2)).setCell ⟨S, 6, none⟩ (.slice fa2 fn2 fc2)).setCell ⟨S, 7, none⟩ (.slice la2 ln2 lc2)) :=
  (((((Step.set _ _ (by simp)).tail (Step.set _ _ (by simp))).tail (Step.set _ _ (by simp))).tail (Step.set _ _ (by simp))).tail (Step.set _ _ (by simp))).tail (Step.set _ _ (by simp))
 have z1 := hs1H.out.size
 refine ⟨rfl, (hs2H.out.mono (fun _ h => by cases h)).tail hset, _, _, _, _, _, _, ?_, hxdH.out.keep (fun k hk => by omega) (fun k hk hl => (hset.keep k hl (by simp; omega)).2)⟩
 unfold StC
 simpa using h7
set_option maxRecDepth 100000 in
set_option maxHeartbeats 4000000 in
/-- .. and no other. -/
theorem acc_first2 {w : World} {S : Nat} {many size : Int} {v0 v1 v2 v3 v4 v5 : Value} {told : Bool} {cs : Array Value} (h : StC w S 4 many v0 v1 v2 v3 v4 v5 size told) (hm : many ≠ 0) :
  Calls Tryz.prog 25 #[.pointer (some ⟨S, 0, none⟩), .agg cs] w fun e w' => e = .returned (.int .i64 0) ∧ Step [] id id w w' := by
 have d1 := cell_blk h (i := 1) rfl
 have hl := lt_of_block h
 have hb : (many == 0) = false := by rw [beq_eq_false_iff_ne]; exact hm
 clear h hm
 go_enter Tryz.func25, Tryz.ntmps25
 go_wp2_with fail
 go_ret
 exact ⟨rfl, Step.alloc _⟩
end Go.Proofs.YtembpajlllnncaaGreatDoor
