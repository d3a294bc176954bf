/- Accumulators: Value. -/
import Derived.Test.YtembpajlllnncaaGreatDoorAcL
set_option linter.unusedVariables false
set_option linter.unusedSimpArgs false
namespace Go.Proofs.YtembpajlllnncaaGreatDoor
open Go.RowKit

set_option maxRecDepth 100000 in
theorem nil_func (f : FuncId) (a b : Array Value) (w : World) : (binOp BinOp.eql 40 (.func (.func f) a b) .nilFunc).run Tryz.prog w = .ok (.bool false) w := by
 have h : ∀ d, (Op.equalIn (d + 1) 40 (.func (.func f) a b) .nilFunc).run Tryz.prog w = .ok false w := fun d => by
  rw [Op.equalIn]
  simp [Tryz.underlying40, go_sem]
 simp only [binOp, Op.equal, go_sem]
 obtain ⟨d, hd⟩ : ∃ d, Op.maxDepth = d + 1 := ⟨Op.maxDepth - 1, by decide⟩
 rw [hd, Sem.run_bind, h d]
 rfl
set_option maxRecDepth 100000 in
set_option maxHeartbeats 4000000 in
/-- A count. -/
theorem value_told {w : World} {S : Nat} {K many size : Int} {v0 v1 v2 v3 v4 v5 : Value} (h : StC w S K many v0 v1 v2 v3 v4 v5 size true) (hm : inR many) :
  Calls Tryz.prog 14 #[.pointer (some ⟨S, 0, none⟩)] w fun e w' => e = .returned (.agg #[.int .i64 (kindI many), .int .i64 many, (.string ⟨#[]⟩), (.slice none 0 0), (.slice none 0 0), (.slice none 0 0)]) ∧ Step [] id id w w' := by
 obtain ⟨F, hF⟩ : ∃ F, F = addF K := ⟨_, rfl⟩
 have hnf := fun w => nil_func F #[.pointer (some ⟨S, 0, none⟩)] #[] w
 have hl := lt_of_block h
 obtain ⟨W1, hW1⟩ : ∃ W1, W1 = w.alloc (.cells #[.int .i64 0, .int .i64 0, (.string ⟨#[]⟩), (.slice none 0 0), (.slice none 0 0), (.slice none 0 0)] 35) := ⟨_, rfl⟩
 have hs1 : Step [] id id w W1 := by rw [hW1]; exact Step.alloc _
 have hZ := Lib.hid (show W1.heap[w.heap.size]? = some (.cells #[.int .i64 0, .int .i64 0, (.string ⟨#[]⟩), (.slice none 0 0), (.slice none 0 0), (.slice none 0 0)] 35 (0, 0)) by rw [hW1]; exact heap_alloc_new w _)
 have c0 := cell_blk h (i := 0) rfl
 rw [← hF] at c0
 have c1 := cell_blk h (i := 1) rfl
 have c2 := cell_blk h (i := 2) rfl
 have c3 := cell_blk h (i := 3) rfl
 have c4 := cell_blk h (i := 4) rfl
 have c5 := cell_blk h (i := 5) rfl
 have c6 := cell_blk h (i := 6) rfl
 have c7 := cell_blk h (i := 7) rfl
 have c9 := cell_blk h (i := 9) rfl
 have hW1H := Lib.hid hW1
 have hs1H := Lib.hid hs1
 clear hF
 have hof := Lib.hid (num_of many W1 hm)
 clear h hW1 hs1 hm
 go_enter Tryz.func14, Tryz.ntmps14
 go_wp2_with fail
 rw [← hW1H.out]
 refine hof.out.mono ?_
 rintro e w2 ⟨rfl, hs2⟩
 have hZ2 := hs2.at hZ.out (by simp)
 obtain ⟨z0, z1, z2, z3, z4, z5⟩ := cells6A hZ2
 have fz := free_blk hZ2
 have lz := lt_of_block hZ2
 have hZ2H := Lib.hid hZ2
 have hs2H := Lib.hid (hs1H.out.tail hs2)
 clear hZ2 hs2
 go_wp2_with fail
 change bodyPost _ _ _ _ _ (set6 w2 w.heap.size (.int .i64 (kindI many)) (.int .i64 many) (.string ⟨#[]⟩) (.slice none 0 0) (.slice none 0 0) (.slice none 0 0))
 refine bodyPost_ret (results_v rfl rfl (set6_heap hZ2H.out)) rfl ?_
 exact ⟨rfl, hs2H.out.tailNew (T2 := [w.heap.size]) (.grown set6_grown (fun k hk => by cases hk; simp)) (by simp)⟩
set_option maxRecDepth 100000 in
set_option maxHeartbeats 4000000 in
/-- Of nothing: Null. -/
theorem value_null {w : World} {S : Nat} {K many n size : Int} {v2 v3 v4 v5 : Value} (h : StC w S K many (.int .i64 0) (.int .i64 n) v2 v3 v4 v5 size false) :
  Calls Tryz.prog 14 #[.pointer (some ⟨S, 0, none⟩)] w fun e w' => e = .returned (.agg #[.int .i64 2, .int .i64 0, (.string ⟨#[]⟩), (.slice none 0 0), (.slice none 0 0), (.slice none 0 0)]) ∧ Step [] id id w w' := by
 obtain ⟨F, hF⟩ : ∃ F, F = addF K := ⟨_, rfl⟩
 have hnf := fun w => nil_func F #[.pointer (some ⟨S, 0, none⟩)] #[] w
 have hl := lt_of_block h
 obtain ⟨W1, hW1⟩ : ∃ W1, W1 = w.alloc (.cells #[.int .i64 0, .int .i64 0, (.string ⟨#[]⟩), (.slice none 0 0), (.slice none 0 0), (.slice none 0 0)] 35) := ⟨_, rfl⟩
 have hs1 : Step [] id id w W1 := by rw [hW1]; exact Step.alloc _
 have hZ := Lib.hid (show W1.heap[w.heap.size]? = some (.cells #[.int .i64 0, .int .i64 0, (.string ⟨#[]⟩), (.slice none 0 0), (.slice none 0 0), (.slice none 0 0)] 35 (0, 0)) by rw [hW1]; exact heap_alloc_new w _)
 have c0 := cell_blk h (i := 0) rfl
 rw [← hF] at c0
 have c1 := cell_blk h (i := 1) rfl
 have c2 := cell_blk h (i := 2) rfl
 have c3 := cell_blk h (i := 3) rfl
 have c4 := cell_blk h (i := 4) rfl
 have c5 := cell_blk h (i := 5) rfl
 have c6 := cell_blk h (i := 6) rfl
 have c7 := cell_blk h (i := 7) rfl
 have c9 := cell_blk h (i := 9) rfl
 have hW1H := Lib.hid hW1
 have hs1H := Lib.hid hs1
 clear hF
 clear h hW1 hs1
 go_enter Tryz.func14, Tryz.ntmps14
 go_wp2_with fail
 have hvb := heap_alloc_new w (.cells #[.int .i64 2, .int .i64 0, (.string ⟨#[]⟩), (.slice none 0 0), (.slice none 0 0), (.slice none 0 0)] 35)
 exact bodyPost_ret (results_v rfl rfl hvb) rfl ⟨rfl, Step.alloc _⟩
set_option maxRecDepth 100000 in
set_option maxHeartbeats 4000000 in
/-- Else a copy of what is kept. -/
theorem value_copy {P : Nat → Prop} {w : World} {S : Nat} {K many size : Int} {x : Val} {v0 v1 v2 v3 v4 v5 : Value} (h : StC w S K many v0 v1 v2 v3 v4 v5 size false) (hx : VIs P w x [v0, v1, v2, v3, v4, v5]) (hw : weightV x ≤ 100000000) (hk : x.kind ≠ 0) :
  Calls Tryz.prog 14 #[.pointer (some ⟨S, 0, none⟩)] w fun e w' => ∃ ds : List Value, e = .returned (.agg ds.toArray) ∧ VIs (fun k => w.heap.size ≤ k) w' x ds ∧ Step [] id id w w' := by
 obtain ⟨s0, ba, bn, bc, fa, fn, fc, la, ln, lc, hcs, -⟩ := hx.six
 obtain ⟨n0, hn0⟩ : ∃ k, k = x.num := ⟨_, rfl⟩
 obtain ⟨k0, hk0⟩ : ∃ k, k = x.kind := ⟨_, rfl⟩
 rw [← hk0, ← hn0] at hcs
 injection hcs with q0 hcs
 injection hcs with q1 hcs
 injection hcs with q2 hcs
 injection hcs with q3 hcs
 injection hcs with q4 hcs
 injection hcs with q5 hcs
 subst q0 q1 q2 q3 q4 q5
 obtain ⟨F, hF⟩ : ∃ F, F = addF K := ⟨_, rfl⟩
 have hnf := fun w => nil_func F #[.pointer (some ⟨S, 0, none⟩)] #[] w
 have hl := lt_of_block h
 obtain ⟨W1, hW1⟩ : ∃ W1, W1 = w.alloc (.cells #[.int .i64 0, .int .i64 0, (.string ⟨#[]⟩), (.slice none 0 0), (.slice none 0 0), (.slice none 0 0)] 35) := ⟨_, rfl⟩
 have hs1 : Step [] id id w W1 := by rw [hW1]; exact Step.alloc _
 have hZ := Lib.hid (show W1.heap[w.heap.size]? = some (.cells #[.int .i64 0, .int .i64 0, (.string ⟨#[]⟩), (.slice none 0 0), (.slice none 0 0), (.slice none 0 0)] 35 (0, 0)) by rw [hW1]; exact heap_alloc_new w _)
 have c0 := cell_blk h (i := 0) rfl
 rw [← hF] at c0
 have c1 := cell_blk h (i := 1) rfl
 have c2 := cell_blk h (i := 2) rfl
 have c3 := cell_blk h (i := 3) rfl
 have c4 := cell_blk h (i := 4) rfl
 have c5 := cell_blk h (i := 5) rfl
 have c6 := cell_blk h (i := 6) rfl
 have c7 := cell_blk h (i := 7) rfl
 have c9 := cell_blk h (i := 9) rfl
 have hW1H := Lib.hid hW1
 have hs1H := Lib.hid hs1
 clear hF
 have hx1 := hx.below.keep (P2 := fun _ => True) (w' := W1) (fun _ _ => trivial) (fun k hk hl => (hs1.keep k hl (by simp)).2)
 have hcp := Lib.hid (bs_copy hw hx1)
 have hx1H := Lib.hid hx1
 have hkb : (k0 == 0) = false := by rw [beq_eq_false_iff_ne, hk0]; exact hk
 clear h hW1 hs1 hx hw hk hn0 hk0 hx1 hcs
 go_enter Tryz.func14, Tryz.ntmps14
 go_wp2_with fail
 rw [← hW1H.out]
 refine hcp.out.mono ?_
 rintro e w2 hC
 obtain ⟨ds, rfl, hxd, hs2⟩ := hC.is hx1H.out
 obtain ⟨s2, ba2, bn2, bc2, fa2, fn2, fc2, la2, ln2, lc2, hds, -⟩ := hxd.six
 obtain ⟨n2, hn2⟩ : ∃ k, k = x.num := ⟨_, rfl⟩
 obtain ⟨k2, hk2⟩ : ∃ k, k = x.kind := ⟨_, rfl⟩
 rw [← hk2, ← hn2] at hds
 subst hds
 have hZ2 := hs2.at hZ.out (by simp)
 obtain ⟨z0, z1, z2, z3, z4, z5⟩ := cells6A hZ2
 have fz := free_blk hZ2
 have lz := lt_of_block hZ2
 have hZ2H := Lib.hid hZ2
 have hs2H := Lib.hid (hs1H.out.tail hs2)
 have hxdH := Lib.hid hxd
 have l1 := lt_of_block hZ.out
 clear hZ2 hs2 hC hxd hn2 hk2
 go_wp2_with fail
 change bodyPost _ _ _ _ _ (set6 w2 w.heap.size (.int .i64 k2) (.int .i64 n2) (.string s2) (.slice ba2 bn2 bc2) (.slice fa2 fn2 fc2) (.slice la2 ln2 lc2))
 refine bodyPost_ret (results_v rfl rfl (set6_heap hZ2H.out)) rfl ?_
 have hset : Step [w.heap.size] id id w2 (set6 w2 w.heap.size (.int .i64 k2) (.int .i64 n2) (.string s2) (.slice ba2 bn2 bc2) (.slice fa2 fn2 fc2) (.slice la2 ln2 lc2)) := .grown set6_grown (fun k hk => by cases hk; simp)
 exact ⟨_, rfl, hxdH.out.keep (fun k hk => by omega) (fun k hk hl => (hset.keep k hl (by simp; omega)).2), hs2H.out.tailNew hset (by simp)⟩
end Go.Proofs.YtembpajlllnncaaGreatDoor
