/- Accumulators: states; New, own. -/
import Derived.Test.YtembpajlllnncaaGreatDoorAcO
import Derived.Laws.EntriesVeiled
set_option linter.unusedVariables false
set_option linter.unusedSimpArgs false
namespace Go.Proofs.YtembpajlllnncaaGreatDoor
open Go.RowKit

/-- A kind's function. -/
def addF (K : Int) : FuncId :=
 if K = 1 then 21 else if K = 2 then 23 else if K = 3 then 24 else if K = 4 then 25 else if K = 5 then 26
 else if K = 6 then 27 else if K = 7 then 29 else 20
/-- A state's ten cells. -/
def StC (w : World) (S : Nat) (K many : Int) (v0 v1 v2 v3 v4 v5 : Value) (size : Int) (told : Bool) : Prop :=
 w.heap[S]? = some (.cells #[.func (.func (addF K)) #[.pointer (some ⟨S, 0, none⟩)] #[], .int .i64 many, v0, v1, v2, v3, v4, v5, .int .i64 size, .bool told] 47 (0, 0))
set_option maxRecDepth 100000 in
set_option maxHeartbeats 2000000 in
/-- A state of nothing: the sum. -/
theorem new_sum (w : World) : Calls Tryz.prog 6 #[.int .i64 1] w fun e w' => e = .returned (.pointer (some ⟨w.heap.size, 0, none⟩)) ∧ StC w' w.heap.size 1 0 (.int .i64 3) (.int .i64 0) (.string ⟨#[]⟩) (.slice none 0 0) (.slice none 0 0) (.slice none 0 0) 0 false ∧ Step [] id id w w' := by
 have hmf : ∀ (fn : Fn) (first cap : Array Value) (w : World), (Instr.makeFunc fn first cap).run Tryz.prog w = .ok (.func fn first cap) w := fun _ _ _ _ => rfl
 go_enter Tryz.func6, Tryz.ntmps6
 go_wp2_with fail
 refine (num_of 0 _ ⟨by omega, by omega⟩).mono ?_
 rintro e w2 ⟨rfl, hs2⟩
 have hk0 : kindI 0 = 3 := rfl
 rw [hk0]
 have hS := hs2.at (heap_alloc_new w (.cells #[.func (.func 20) #[.pointer (some ⟨w.heap.size, 0, none⟩)] #[], .int .i64 0, .int .i64 0, .int .i64 0, (.string ⟨#[]⟩), (.slice none 0 0), (.slice none 0 0), (.slice none 0 0), .int .i64 0, .bool false] 47)) (by simp)
 have f0 := free_blk hS
 have c0 := cell_blk hS (i := 0) rfl
 have c2 := cell_blk hS (i := 2) rfl
 have c3 := cell_blk hS (i := 3) rfl
 have c4 := cell_blk hS (i := 4) rfl
 have c5 := cell_blk hS (i := 5) rfl
 have c6 := cell_blk hS (i := 6) rfl
 have c7 := cell_blk hS (i := 7) rfl
 have hl := lt_of_block hS
 have hSH := Lib.hid hS
 have hsH := Lib.hid ((Step.alloc (T := []) (g := id) (.cells #[.func (.func 20) #[.pointer (some ⟨w.heap.size, 0, none⟩)] #[], .int .i64 0, .int .i64 0, .int .i64 0, (.string ⟨#[]⟩), (.slice none 0 0), (.slice none 0 0), (.slice none 0 0), .int .i64 0, .bool false] 47)).tail hs2)
 clear hS hs2 hk0
 go_wp2_with fail
 go_ret
 have h1 := set_blk hSH.out 0 (.func (.func 21) #[.pointer (some ⟨w.heap.size, 0, none⟩)] #[])
 have h2 := set_blk h1 2 (.int .i64 3)
 have h3 := set_blk h2 3 (.int .i64 0)
 have h4 := set_blk h3 4 (.string ⟨#[]⟩)
 have h5 := set_blk h4 5 (.slice none 0 0)
 have h6 := set_blk h5 6 (.slice none 0 0)
 have h7 := set_blk h6 7 (.slice none 0 0)
 refine ⟨rfl, ?_, ?_⟩
 ·unfold StC
  rw [show addF 1 = 21 from rfl]
  simpa using h7
 ·exact hsH.out.tailNew (T2 := [w.heap.size]) (((((((Step.set _ _ (by simp)).tail (Step.set _ _ (by simp))).tail (Step.set _ _ (by simp))).tail (Step.set _ _ (by simp))).tail (Step.set _ _ (by simp))).tail (Step.set _ _ (by simp))).tail (Step.set _ _ (by simp))) (by simp)
set_option maxRecDepth 100000 in
set_option maxHeartbeats 2000000 in
theorem new_least (w : World) : Calls Tryz.prog 6 #[.int .i64 2] w fun e w' => e = .returned (.pointer (some ⟨w.heap.size, 0, none⟩)) ∧ StC w' w.heap.size 2 0 (.int .i64 0) (.int .i64 0) (.string ⟨#[]⟩) (.slice none 0 0) (.slice none 0 0) (.slice none 0 0) 0 false ∧ Step [] id id w w' := by
 have hmf : ∀ (fn : Fn) (first cap : Array Value) (w : World), (Instr.makeFunc fn first cap).run Tryz.prog w = .ok (.func fn first cap) w := fun _ _ _ _ => rfl
 go_enter Tryz.func6, Tryz.ntmps6
 go_wp2_with fail
 go_ret
 exact ⟨rfl, heap_alloc_new w _, Step.alloc _⟩
set_option maxRecDepth 100000 in
set_option maxHeartbeats 2000000 in
theorem new_greatest (w : World) : Calls Tryz.prog 6 #[.int .i64 3] w fun e w' => e = .returned (.pointer (some ⟨w.heap.size, 0, none⟩)) ∧ StC w' w.heap.size 3 0 (.int .i64 0) (.int .i64 0) (.string ⟨#[]⟩) (.slice none 0 0) (.slice none 0 0) (.slice none 0 0) 0 false ∧ Step [] id id w w' := by
 have hmf : ∀ (fn : Fn) (first cap : Array Value) (w : World), (Instr.makeFunc fn first cap).run Tryz.prog w = .ok (.func fn first cap) w := fun _ _ _ _ => rfl
 go_enter Tryz.func6, Tryz.ntmps6
 go_wp2_with fail
 go_ret
 exact ⟨rfl, heap_alloc_new w _, Step.alloc _⟩
set_option maxRecDepth 100000 in
set_option maxHeartbeats 2000000 in
theorem new_first (w : World) : Calls Tryz.prog 6 #[.int .i64 4] w fun e w' => e = .returned (.pointer (some ⟨w.heap.size, 0, none⟩)) ∧ StC w' w.heap.size 4 0 (.int .i64 0) (.int .i64 0) (.string ⟨#[]⟩) (.slice none 0 0) (.slice none 0 0) (.slice none 0 0) 0 false ∧ Step [] id id w w' := by
 have hmf : ∀ (fn : Fn) (first cap : Array Value) (w : World), (Instr.makeFunc fn first cap).run Tryz.prog w = .ok (.func fn first cap) w := fun _ _ _ _ => rfl
 go_enter Tryz.func6, Tryz.ntmps6
 go_wp2_with fail
 go_ret
 exact ⟨rfl, heap_alloc_new w _, Step.alloc _⟩
set_option maxRecDepth 100000 in
set_option maxHeartbeats 2000000 in
theorem new_last (w : World) : Calls Tryz.prog 6 #[.int .i64 5] w fun e w' => e = .returned (.pointer (some ⟨w.heap.size, 0, none⟩)) ∧ StC w' w.heap.size 5 0 (.int .i64 0) (.int .i64 0) (.string ⟨#[]⟩) (.slice none 0 0) (.slice none 0 0) (.slice none 0 0) 0 false ∧ Step [] id id w w' := by
 have hmf : ∀ (fn : Fn) (first cap : Array Value) (w : World), (Instr.makeFunc fn first cap).run Tryz.prog w = .ok (.func fn first cap) w := fun _ _ _ _ => rfl
 go_enter Tryz.func6, Tryz.ntmps6
 go_wp2_with fail
 go_ret
 exact ⟨rfl, heap_alloc_new w _, Step.alloc _⟩
set_option maxRecDepth 100000 in
set_option maxHeartbeats 2000000 in
theorem new_count (w : World) : Calls Tryz.prog 6 #[.int .i64 8] w fun e w' => e = .returned (.pointer (some ⟨w.heap.size, 0, none⟩)) ∧ StC w' w.heap.size 8 0 (.int .i64 0) (.int .i64 0) (.string ⟨#[]⟩) (.slice none 0 0) (.slice none 0 0) (.slice none 0 0) 0 true ∧ Step [] id id w w' := by
 have hmf : ∀ (fn : Fn) (first cap : Array Value) (w : World), (Instr.makeFunc fn first cap).run Tryz.prog w = .ok (.func fn first cap) w := fun _ _ _ _ => rfl
 go_enter Tryz.func6, Tryz.ntmps6
 go_wp2_with fail
 go_ret
 exact ⟨rfl, heap_alloc_new w _, Step.alloc _⟩
end Go.Proofs.YtembpajlllnncaaGreatDoor
