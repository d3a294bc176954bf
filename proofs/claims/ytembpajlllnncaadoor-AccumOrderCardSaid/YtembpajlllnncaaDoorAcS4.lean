/- Panics caught. -/
import Derived.Test.YtembpajlllnncaaDoorAcS3
import Derived.Recover
import Derived.Defers
set_option linter.unusedVariables false
set_option linter.unusedSimpArgs false
namespace Go.Proofs.YtembpajlllnncaaDoor
open Go.RowKit

set_option maxRecDepth 100000 in
set_option maxHeartbeats 2000000 in
theorem catch_broke (b : Nat) (x n : Int) (older : List PanicEntry) (w : World) (h : w.heap[b]? = some (.cells #[.int .i64 x] 27 (0, 0))) :
    CallsD Tryd.prog 58 #[.pointer (some ⟨b, 0, none⟩)] (.panicking ({ v := .iface 27 (.int .i64 n), recovered := false } :: older)) w fun e u' w' =>
      e = .returned (.tuple #[]) ∧ u' = .panicking ({ v := .iface 27 (.int .i64 n), recovered := true } :: older) ∧ w' = w.setCell ⟨b, 0, none⟩ (.int .i64 n) := by
  have hc := cell_blk h (i := 0) rfl
  have hz := free_blk h 0
  refine callsD_of_wpS Tryd.func58 rfl fun c₀ cs hu => ?_
  apply wpS_seq
  apply wpS_region
  simp [wpOpsS, go_sem, recoverD, hu, Tryd.ntmps58, Exit.thenS]
  refine wpS_of_wp ?_
  have hta : ∀ w : World, (Instr.typeAssert (.iface 27 (.int .i64 n)) 20 27 true).run Tryd.prog w = .ok (.tuple #[.int .i64 n, .bool true]) w := fun _ => by kernel_rfl
  go_wp2_with fail
  cases c₀
  simp_all [bodyPostS, results, Tryd.results58]
set_option maxRecDepth 100000 in
theorem catch_idle (b : Nat) (w : World) :
    CallsD Tryd.prog 58 #[.pointer (some ⟨b, 0, none⟩)] .returning w fun e u' w' => e = .returned (.tuple #[]) ∧ u' = .returning ∧ w' = w := by
  refine callsD_of_wpS Tryd.func58 rfl fun c₀ cs hu => ?_
  apply wpS_seq
  apply wpS_region
  simp [wpOpsS, go_sem, recoverD, hu, Tryd.ntmps58, Exit.thenS]
  refine wpS_of_wp ?_
  go_wp2
  cases c₀
  simp_all [bodyPostS, results, Tryd.results58]
set_option maxRecDepth 100000 in
theorem tried_ok (f : FuncId) (caps : Array Value) (w : World) (R : World → Prop) (T : List Nat) (hT : w.heap.size ∉ T) (hcf : ∀ w, (callFunc f caps).run Tryd.prog w = .ok (.enter f caps) w)
    (h : Calls Tryd.prog f caps (w.alloc (.cells #[.int .i64 0] 27)) fun e w' => e = done0 ∧ R w' ∧ Step T id id (w.alloc (.cells #[.int .i64 0] 27)) w') :
    Calls Tryd.prog 43 #[.func (.func f) #[] caps] w fun e w' => e = .returned (.int .i64 0) ∧ ∃ w1, R w1 ∧ w1.grownBy w' (some w.heap.size) ∧ Step T id id w w' := by
  have hmf : ∀ (fn : Fn) (first cap : Array Value) (w : World), (Instr.makeFunc fn first cap).run Tryd.prog w = .ok (.func fn first cap) w := fun _ _ _ _ => rfl
  have hH := Lib.hid h
  clear h
  go_enter_defers Tryd.func43, Tryd.ntmps43
  go_wp2_with fail
  refine hH.out.mono ?_
  rintro e w1 ⟨rfl, hR, hst⟩
  have hblk := hst.at (heap_alloc_new w _) hT
  have hq := cell_blk hblk (i := 0) rfl
  have hz := free_blk hblk 0
  have hRH := Lib.hid hR
  have hstH := Lib.hid hst
  have hblkH := Lib.hid hblk
  clear hR hst hblk
  go_wp2_with fail
  refine leaves_cons (f := 58) (args := #[.pointer (some ⟨w.heap.size, 0, none⟩)]) (by simp) (by simp [go_sem]) ?_
  refine (catch_idle w.heap.size _).mono ?_
  rintro e u' w'' ⟨rfl, rfl, rfl⟩
  simp [Leaves, settle, results, Tryd.results43, go_sem, hq, hz]
  exact ⟨w1, hRH.out, ⟨rfl, rfl, rfl, by simp, fun k _ hk => Below.heap_setCell _ _ _ _ (fun e => hk (by rw [e]))⟩, (((Step.alloc _).tail hstH.out)).tailNew (T2 := [w.heap.size]) (Step.set _ _ (by simp)) (by simp)⟩
set_option maxRecDepth 100000 in
set_option maxHeartbeats 2000000 in
theorem tried_broke (n : Int) (f : FuncId) (caps : Array Value) (w : World) (R : World → Prop) (T : List Nat) (hT : w.heap.size ∉ T) (hcf : ∀ w, (callFunc f caps).run Tryd.prog w = .ok (.enter f caps) w)
    (h : Calls Tryd.prog f caps (w.alloc (.cells #[.int .i64 0] 27)) fun e w' => e = broke n ∧ R w' ∧ Step T id id (w.alloc (.cells #[.int .i64 0] 27)) w') :
    Calls Tryd.prog 43 #[.func (.func f) #[] caps] w fun e w' => e = .returned (.int .i64 n) ∧ ∃ w1, R w1 ∧ w1.grownBy w' (some w.heap.size) ∧ Step T id id w w' := by
  have hmf : ∀ (fn : Fn) (first cap : Array Value) (w : World), (Instr.makeFunc fn first cap).run Tryd.prog w = .ok (.func fn first cap) w := fun _ _ _ _ => rfl
  have hH := Lib.hid h
  clear h
  go_enter_defers Tryd.func43, Tryd.ntmps43
  go_wp2_with fail
  refine hH.out.mono ?_
  rintro e w1 ⟨rfl, hR, hst⟩
  have hblk := hst.at (heap_alloc_new w _) hT
  have hq := cell_blk hblk (i := 0) rfl
  have hz := free_blk hblk 0
  have hRH := Lib.hid hR
  have hstH := Lib.hid hst
  have hblkH := Lib.hid hblk
  clear hR hst hblk
  refine leaves_cons (f := 58) (args := #[.pointer (some ⟨w.heap.size, 0, none⟩)]) (by simp) (by simp [go_sem]) ?_
  refine (catch_broke w.heap.size 0 n [] _ hblkH.out).mono ?_
  rintro e u' w'' ⟨rfl, rfl, rfl⟩
  simp [Leaves, settle, results, Tryd.results43, go_sem, hq, hz]
  exact ⟨w1, hRH.out, ⟨rfl, rfl, rfl, by simp, fun k _ hk => Below.heap_setCell _ _ _ _ (fun e => hk (by rw [e]))⟩, (((Step.alloc _).tail hstH.out)).tailNew (T2 := [w.heap.size]) (Step.set _ _ (by simp)) (by simp)⟩
end Go.Proofs.YtembpajlllnncaaDoor
