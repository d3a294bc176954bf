/- The library's tables. -/
import Derived.Test.YtembpajlllnncaaDoorAcS1
import Derived.Test.YtembpajlllnncaaDoorBsU2
import Derived.Shelf.Unicode.ValidAny
set_option linter.unusedVariables false
set_option linter.unusedSimpArgs false
namespace Go.Proofs.YtembpajlllnncaaDoor
open Go.RowKit

abbrev Utf8T (w : World) : Prop := Lib.Utf8Tabs (Tryd.laysValid_ren.g 3) (Tryd.laysValid_ren.g 4) w
/-- P's blocks: the tables among them. -/
structure Tabs (P : Nat → Prop) (w : World) : Prop where
  lt : ∀ k, P k → k < w.heap.size
  pow : Pow10 w
  powP : ∀ k, Tryd.prog.globalNamed "internal/strconv.uint64pow10" = some k → P k
  utf : Utf8T w
  utf3 : P (Tryd.laysValid_ren.g 3)
  utf4 : P (Tryd.laysValid_ren.g 4)
section
variable {P P2 : Nat → Prop} {w w' : World} {T : List Nat}
theorem Utf8T.keep (h : Utf8T w) (h3 : w'.heap[Tryd.laysValid_ren.g 3]? = w.heap[Tryd.laysValid_ren.g 3]?) (h4 : w'.heap[Tryd.laysValid_ren.g 4]? = w.heap[Tryd.laysValid_ren.g 4]?) : Utf8T w' :=
  ⟨fun c hc => by rw [cell_of_blk_eq h3]; exact h.1 c hc, fun i hi => ⟨by rw [cell_of_blk_eq h4]; exact (h.2 i hi).1, by rw [cell_of_blk_eq h4]; exact (h.2 i hi).2⟩⟩
theorem Tabs.old (h : Tabs P w) (hs : Step T id id w w') (hT : ∀ k ∈ T, ¬ P k) : ∀ k, P k → k < w.heap.size → w'.heap[k]? = w.heap[k]? := fun k hP hk => (hs.keep k hk (fun e => hT k e hP)).2
theorem Tabs.keep (h : Tabs P w) (hs : Step T id id w w') (hT : ∀ k ∈ T, ¬ P k) : Tabs P w' :=
  ⟨fun k hk => hs.lt (h.lt k hk), h.pow.of fun k hk hl => h.old hs hT k (h.powP k hk) hl, h.powP, Utf8T.keep h.utf (h.old hs hT _ h.utf3 (h.lt _ h.utf3)) (h.old hs hT _ h.utf4 (h.lt _ h.utf4)), h.utf3, h.utf4⟩
theorem Tabs.grown (h : Tabs P w) (hg : w.grownBy w' none) : Tabs P w' := h.keep (T := []) (.grown hg (fun _ h => by cases h)) (fun _ h => by cases h)
theorem Tabs.quiet (h : Tabs P w) (hs : Step [] id id w w') : Tabs P w' := h.keep hs (fun _ h => by cases h)
theorem Tabs.one {R : Nat} (h : Tabs P w) (hs : Step [R] id id w w') (hR : ¬ P R) : Tabs P w' := h.keep hs (fun k hk => by rw [List.mem_singleton] at hk; rw [hk]; exact hR)
theorem Tabs.more (h : Tabs P w) (hP : ∀ k, P k → P2 k) (hl : ∀ k, P2 k → k < w.heap.size) : Tabs P2 w :=
  ⟨hl, h.pow, fun k hk => hP k (h.powP k hk), h.utf, hP _ h.utf3, hP _ h.utf4⟩
theorem Below.step {B : Nat} (h : Below B w w') (hB : B = w.heap.size) : Step [] id id w w' := by
  subst hB
  exact ⟨h.os, h.tape, h.output, h.size, fun k hk _ => ⟨rfl, h.block k hk⟩, fun hw => hw.grow h.size⟩
/-- utf8.ValidString. -/
theorem bs_valid (l : Bs) (hl : l.length ≤ 140737488351232) (ht : Utf8T w) : Calls Tryd.prog 61 #[.string (strOf l)] w fun e w' => e = .returned (.bool (utf8 l)) ∧ Step [] id id w w' := by
  have h : Calls Tryd.prog 61 #[.string (strOf l)] w fun e w' => e = .returned (.bool (Lib.validD (strOf l).data.toList)) ∧ Below w.heap.size w w' := Any.utf8_ValidString Tryd.laysValid (strOf l) w (by rw [strOf_size]; omega) ht
  refine h.mono ?_
  rintro e w' ⟨rfl, hb⟩
  refine ⟨?_, Below.step hb rfl⟩
  rw [utf8_validD]; simp [strOf]
end
end Go.Proofs.YtembpajlllnncaaDoor
