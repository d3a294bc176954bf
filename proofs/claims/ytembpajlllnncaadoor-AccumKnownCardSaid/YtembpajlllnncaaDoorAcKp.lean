/- AccumKnown, plain: eight kinds, five values. -/
import Derived.Test.YtembpajlllnncaaDoorAcJ
import Derived.KernelRfl
set_option linter.unusedVariables false
set_option linter.unusedSimpArgs false
namespace Go.Proofs.YtembpajlllnncaaDoor
open Go.RowKit

def accNames : List Bs := [[36, 115, 117, 109], [36, 109, 105, 110], [36, 109, 97, 120], [36, 102, 105, 114, 115, 116], [36, 108, 97, 115, 116], [36, 112, 117, 115, 104], [36, 97, 100, 100, 84, 111, 83, 101, 116], [36, 99, 111, 117, 110, 116]]
def inVs : List Val := [.mk 0 0 [] [] [] [], .mk 2 0 [] [] [] [], .mk 4 3 [] [] [] [], .mk 3 3 [] [] [] [], .mk 0 0 [] [] [] []]
def nmI (i : Nat) : Bs := accNames.getD i []
def inV (k : Nat) : Val := inVs.getD k noneV
def inK (k : Nat) : Int := (inV k).kind
def inN (k : Nat) : Int := (inV k).num
def stK (i : Nat) : Nat → ASt
  | 0 => startA ((i : Int) + 1)
  | k + 1 => (addA ((i : Int) + 1) (stK i k) (inV k)).2
def lightV (v : Val) : Bool := decide (weightV v ≤ 100) && v.l.all fun y => decide (y.kind ≤ 4)
theorem known_all : ((List.range 8).all fun i => (List.range 6).all fun k => decide ((addA ((i : Int) + 1) (stK i k) (inV k)).1 = 0) && decide ((stK i k).many ≤ 10) && lightV (stK i k).v) = true := by kernel_rfl
theorem known_at {i k : Nat} (hi : i < 8) (hk : k < 6) : (addA ((i : Int) + 1) (stK i k) (inV k)).1 = 0 ∧ (stK i k).many ≤ 10 ∧ weightV (stK i k).v ≤ 100 ∧ ∀ y ∈ (stK i k).v.l, y.kind ≤ 4 := by
  have h := List.all_eq_true.1 (List.all_eq_true.1 known_all i (List.mem_range.2 hi)) k (List.mem_range.2 hk)
  simp only [lightV, Bool.and_eq_true, decide_eq_true_eq, List.all_eq_true] at h
  exact ⟨h.1.1, h.1.2, h.2.1, h.2.2⟩
theorem names_at {i : Nat} (hi : i < 8) : kindOf (nmI i) = (i : Int) + 1 := by
  have h : ((List.range 8).all fun i => decide (kindOf (nmI i) = (i : Int) + 1)) = true := by kernel_rfl
  simpa using List.all_eq_true.1 h i (List.mem_range.2 hi)
theorem inV_at {k : Nat} (hk : k < 5) : inV k = .mk (inK k) (inN k) [] [] [] [] ∧ 0 ≤ inK k ∧ inK k ≤ 4 ∧ inR (inN k) := by
  obtain rfl | rfl | rfl | rfl | rfl : k = 0 ∨ k = 1 ∨ k = 2 ∨ k = 3 ∨ k = 4 := by omega
  all_goals exact ⟨rfl, by decide, by decide, by decide⟩
theorem none_vals : (List.range 8).map (fun i : Nat => valueA ((i : Int) + 1) (stK i 0)) = [.mk 3 0 [] [] [] [], nullV, nullV, nullV, nullV, listV [], listV [], .mk 3 0 [] [] [] []] := by kernel_rfl
theorem end_vals : (List.range 8).map (fun i : Nat => valueA ((i : Int) + 1) (stK i 5)) = [.mk 4 6 [] [] [] [], .mk 4 3 [] [] [] [], .mk 4 3 [] [] [] [], nullV, nullV, listV [nullV, .mk 4 3 [] [] [] [], .mk 3 3 [] [] [] []], listV [nullV, .mk 4 3 [] [] [] []], .mk 3 5 [] [] [] []] := by kernel_rfl
end Go.Proofs.YtembpajlllnncaaDoor
