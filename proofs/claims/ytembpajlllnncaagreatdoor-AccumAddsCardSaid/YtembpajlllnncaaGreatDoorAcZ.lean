/- Accumulators: own. Accumulators: new lists, sets; Size. -/
import Derived.Test.YtembpajlllnncaaGreatDoorAcY
import Derived.Test.YtembpajlllnncaaGreatDoorAcC6
import Derived.Test.YtembpajlllnncaaGreatDoorAcP
set_option linter.unusedVariables false
set_option linter.unusedSimpArgs false
namespace Go.Proofs.YtembpajlllnncaaGreatDoor
open Go.RowKit

theorem sizeOf_le (x : Val) : sizeOf_ x ≤ 65536 := by
 unfold sizeOf_
 by_cases h : okDoc x = true
 ·rw [if_pos h]
  unfold okDoc at h
  simp only [Bool.and_eq_true, decide_eq_true_eq] at h
  exact h.2
 ·rw [if_neg h]; omega
theorem ownV_range (x : Val) : -7 ≤ ownV x ∧ ownV x ≤ 65529 := by
 have := sizeOf_le (.mk 6 0 [] [] [([], x)] [])
 unfold ownV; omega
theorem rangeAt_blk {w : World} {b : Nat} {xs : List Value} {t : TypeId} (h : w.heap[b]? = some (.cells xs.toArray t (0, 0))) : w.rangeAt b 0 xs := fun j v hj => by
 rw [Nat.zero_add]; exact cell_blk h (by simpa using hj)
/-- A document of one field without a name. -/
theorem vis_doc1 {P : Nat → Prop} {w : World} {x : Val} {cs : List Value} {B : Nat} {t : TypeId} (hx : VIs P w x cs) (hB : w.heap[B]? = some (.cells (.string (strOf []) :: cs).toArray t (0, 0))) (hP : P B) :
  VIs P w (.mk 6 0 [] [] [([], x)] []) [.int .i64 6, .int .i64 0, (.string ⟨#[]⟩), (.slice none 0 0), .slice (some ⟨B, 0, none⟩) 1 1, (.slice none 0 0)] := by
 refine VIs.mk ⟨(.slice none 0 0), some ⟨B, 0, none⟩, 1, none, 0, rfl, .inl ⟨none, 0, rfl, rfl, fun _ => rfl⟩, ⟨by simp [Val.f], by simp [Val.l], fun h => by (cases h), fun _ => rfl⟩, by simp [Val.kind, Val.num], by simp [Val.s, Val.b, Val.f, Val.l], ?_, ?_⟩
 ·simp only [Val.f, FIs]
  exact ⟨⟨B, 0, cs, rfl, hP, by simp, by simpa using rangeAt_blk hB, hx⟩, trivial⟩
 ·simp [Val.l, LIs]
/-- A list of one value. -/
theorem vis_list1 {P : Nat → Prop} {w : World} {x : Val} {cs : List Value} {B : Nat} {t : TypeId} (hx : VIs P w x cs) (hB : w.heap[B]? = some (.cells cs.toArray t (0, 0))) (hP : P B) :
  VIs P w (listV [x]) [.int .i64 7, .int .i64 0, (.string ⟨#[]⟩), (.slice none 0 0), (.slice none 0 0), .slice (some ⟨B, 0, none⟩) 1 1] := by
 refine VIs.mk ⟨(.slice none 0 0), none, 0, some ⟨B, 0, none⟩, 1, rfl, .inl ⟨none, 0, rfl, rfl, fun _ => rfl⟩, ⟨by simp [listV, Val.f], by simp [listV, Val.l], fun _ => rfl, fun h => by (cases h)⟩, by simp [listV, Val.kind, Val.num], by simp [listV, Val.s, Val.b, Val.f, Val.l], ?_, ?_⟩
 ·simp [listV, Val.f, FIs]
 ·simp only [listV, Val.l, LIs]
  exact ⟨⟨B, 0, cs, rfl, hP, by simpa using rangeAt_blk hB, hx⟩, trivial⟩
theorem vis_list0 {P : Nat → Prop} {w : World} : VIs P w (listV []) [.int .i64 7, .int .i64 0, (.string ⟨#[]⟩), (.slice none 0 0), (.slice none 0 0), (.slice none 0 0)] := VIs.flat (k := 7) (n := 0) [] (by omega) (by omega) (by simp)
set_option maxRecDepth 100000 in
set_option maxHeartbeats 4000000 in
/-- A value's own bytes. -/
theorem acc_own {P : Nat → Prop} {w : World} {x : Val} {cs : List Value} (hx : VIs P w x cs) (ht : Tw w) :
  Calls Tryz.prog 28 #[.agg cs.toArray] w fun e w' => e = .returned (.int .i64 (ownV x)) ∧ Step [] id id w w' := by
 obtain ⟨s0, ba, bn, bc, fa, fn, fc, la, ln, lc, hcs, -⟩ := hx.six
 obtain ⟨n0, hn0⟩ : ∃ k, k = x.num := ⟨_, rfl⟩
 obtain ⟨k0, hk0⟩ : ∃ k, k = x.kind := ⟨_, rfl⟩
 rw [← hk0, ← hn0] at hcs
 subst hcs
 clear hn0 hk0
 obtain ⟨W1, hW1⟩ : ∃ W1, W1 = w.alloc (.cells #[.int .i64 k0, .int .i64 n0, .string s0, .slice ba bn bc, .slice fa fn fc, .slice la ln lc] 35) := ⟨_, rfl⟩
 obtain ⟨W2, hW2⟩ : ∃ W2, W2 = W1.alloc (.cells #[(.string ⟨#[]⟩), .int .i64 k0, .int .i64 n0, .string s0, .slice ba bn bc, .slice fa fn fc, .slice la ln lc] 38) := ⟨_, rfl⟩
 have hs1 : Step [] id id w W1 := by rw [hW1]; exact Step.alloc _
 have hs2 : Step [] id id w W2 := by rw [hW2]; exact hs1.tail (Step.alloc _)
 have z1 : W1.heap.size = w.heap.size + 1 := by rw [hW1]; simp
 have hB := heap_alloc_new W1 (.cells #[(.string ⟨#[]⟩), .int .i64 k0, .int .i64 n0, .string s0, .slice ba bn bc, .slice fa fn fc, .slice la ln lc] 38)
 rw [← hW2, z1] at hB
 have hsz := bs_size (vis_doc1 (hx.low.onto hs2) hB (lt_of_block hB)) (ht.step hs2)
 have hr := sizeOf_le (.mk 6 0 [] [] [([], x)] [])
 have hown : ownV x = (sizeOf_ (.mk 6 0 [] [] [([], x)] []) : Int) - 7 := rfl
 rw [hown]
 obtain ⟨Z, hZ⟩ : ∃ Z, Z = sizeOf_ (.mk 6 0 [] [] [([], x)] []) := ⟨_, rfl⟩
 rw [← hZ] at hsz hr ⊢
 have hwrap : IntKind.i64.wrap ((Z : Int) - 7) = (Z : Int) - 7 := IntWalk.i64_in _ (by omega)
 have hszH := Lib.hid hsz
 have hs2H := Lib.hid hs2
 have hW1H := Lib.hid hW1
 have hW2H := Lib.hid hW2
 clear hx ht hs1 hs2 hB hsz hown hZ hW1 hW2
 go_enter Tryz.func28, Tryz.ntmps28
 go_wp2_with fail
 rw [← hW1H.out, ← hW2H.out]
 refine hszH.out.mono ?_
 rintro e w3 ⟨rfl, hs3⟩
 have hs3H := Lib.hid (hs2H.out.tail hs3)
 clear hs3
 go_wp2_with fail
 go_ret
 exact ⟨rfl, hs3H.out⟩
end Go.Proofs.YtembpajlllnncaaGreatDoor
namespace Go.Proofs.YtembpajlllnncaaGreatDoor
open Go.RowKit

set_option maxRecDepth 100000 in
set_option maxHeartbeats 2000000 in
/-- A new list. -/
theorem new_push (w : World) (ht : Tw w) : Calls Tryz.prog 6 #[.int .i64 6] w fun e w' => e = .returned (.pointer (some ⟨w.heap.size, 0, none⟩)) ∧ StC w' w.heap.size 6 0 (.int .i64 7) (.int .i64 0) (.string ⟨#[]⟩) (.slice none 0 0) (.slice none 0 0) (.slice none 0 0) 5 false ∧ Step [] id id w w' := by
 have hmf : ∀ (fn : Fn) (first cap : Array Value) (w : World), (Instr.makeFunc fn first cap).run Tryz.prog w = .ok (.func fn first cap) w := fun _ _ _ _ => rfl
 have hown := Lib.hid (show ∀ (W : World), Step [] id id w W → Calls Tryz.prog 28 #[.agg #[.int .i64 7, .int .i64 0, (.string ⟨#[]⟩), (.slice none 0 0), (.slice none 0 0), (.slice none 0 0)]] W fun e w' => e = .returned (.int .i64 5) ∧ Step [] id id W w' from fun W hs => (acc_own (P := fun _ => True) vis_list0 (ht.step hs)).mono fun e w' h => ⟨by rw [h.1, own_list0], h.2⟩)
 clear ht
 go_enter Tryz.func6, Tryz.ntmps6
 go_wp2_with fail
 refine (hown.out _ (Step.alloc _)).mono ?_
 rintro e w2 ⟨rfl, hs2⟩
 have hS := hs2.at (heap_alloc_new w (.cells #[.func (.func 27) #[.pointer (some ⟨w.heap.size, 0, none⟩)] #[], .int .i64 0, .int .i64 7, .int .i64 0, (.string ⟨#[]⟩), (.slice none 0 0), (.slice none 0 0), (.slice none 0 0), .int .i64 0, .bool false] 47)) (by simp)
 have f0 := free_blk hS
 have c0 := cell_blk hS (i := 0) rfl
 have c8 := cell_blk hS (i := 8) rfl
 have hl := lt_of_block hS
 have hSH := Lib.hid hS
 have hsH := Lib.hid ((Step.alloc (T := []) (g := id) (.cells #[.func (.func 27) #[.pointer (some ⟨w.heap.size, 0, none⟩)] #[], .int .i64 0, .int .i64 7, .int .i64 0, (.string ⟨#[]⟩), (.slice none 0 0), (.slice none 0 0), (.slice none 0 0), .int .i64 0, .bool false] 47)).tail hs2)
 clear hS hs2
 go_wp2_with fail
 go_ret
 have h1 := set_blk hSH.out 8 (.int .i64 5)
 refine ⟨rfl, ?_, hsH.out.tailNew (T2 := [w.heap.size]) (Step.set _ _ (by simp)) (by simp)⟩
 unfold StC
 rw [show addF 6 = 27 from rfl]
 simpa using h1
set_option maxRecDepth 100000 in
set_option maxHeartbeats 2000000 in
/-- A new set. -/
theorem new_set (w : World) (ht : Tw w) : Calls Tryz.prog 6 #[.int .i64 7] w fun e w' => e = .returned (.pointer (some ⟨w.heap.size, 0, none⟩)) ∧ StC w' w.heap.size 7 0 (.int .i64 7) (.int .i64 0) (.string ⟨#[]⟩) (.slice none 0 0) (.slice none 0 0) (.slice none 0 0) 5 false ∧ Step [] id id w w' := by
 have hmf : ∀ (fn : Fn) (first cap : Array Value) (w : World), (Instr.makeFunc fn first cap).run Tryz.prog w = .ok (.func fn first cap) w := fun _ _ _ _ => rfl
 have hown := Lib.hid (show ∀ (W : World), Step [] id id w W → Calls Tryz.prog 28 #[.agg #[.int .i64 7, .int .i64 0, (.string ⟨#[]⟩), (.slice none 0 0), (.slice none 0 0), (.slice none 0 0)]] W fun e w' => e = .returned (.int .i64 5) ∧ Step [] id id W w' from fun W hs => (acc_own (P := fun _ => True) vis_list0 (ht.step hs)).mono fun e w' h => ⟨by rw [h.1, own_list0], h.2⟩)
 clear ht
 go_enter Tryz.func6, Tryz.ntmps6
 go_wp2_with fail
 refine (hown.out _ (Step.alloc _)).mono ?_
 rintro e w2 ⟨rfl, hs2⟩
 have hS := hs2.at (heap_alloc_new w (.cells #[.func (.func 27) #[.pointer (some ⟨w.heap.size, 0, none⟩)] #[], .int .i64 0, .int .i64 7, .int .i64 0, (.string ⟨#[]⟩), (.slice none 0 0), (.slice none 0 0), (.slice none 0 0), .int .i64 0, .bool false] 47)) (by simp)
 have f0 := free_blk hS
 have c0 := cell_blk hS (i := 0) rfl
 have c8 := cell_blk hS (i := 8) rfl
 have hl := lt_of_block hS
 have hSH := Lib.hid hS
 have hsH := Lib.hid ((Step.alloc (T := []) (g := id) (.cells #[.func (.func 27) #[.pointer (some ⟨w.heap.size, 0, none⟩)] #[], .int .i64 0, .int .i64 7, .int .i64 0, (.string ⟨#[]⟩), (.slice none 0 0), (.slice none 0 0), (.slice none 0 0), .int .i64 0, .bool false] 47)).tail hs2)
 clear hS hs2
 go_wp2_with fail
 go_ret
 have h1 := set_blk hSH.out 8 (.int .i64 5)
 have h2 := set_blk h1 0 (.func (.func 29) #[.pointer (some ⟨w.heap.size, 0, none⟩)] #[])
 refine ⟨rfl, ?_, hsH.out.tailNew (T2 := [w.heap.size]) ((Step.set _ _ (by simp)).tail (Step.set _ _ (by simp))) (by simp)⟩
 unfold StC
 rw [show addF 7 = 29 from rfl]
 simpa using h2
end Go.Proofs.YtembpajlllnncaaGreatDoor
