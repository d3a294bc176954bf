/- Accumulators: push. -/
import Derived.Test.YtembpajlllnncaaDoorAcZ
import Derived.Test.YtembpajlllnncaaDoorAcQ
set_option linter.unusedVariables false
set_option linter.unusedSimpArgs false
namespace Go.Proofs.YtembpajlllnncaaDoor
open Go.RowKit

/-- A list's, a set's state: what it keeps lies in a row of its own. -/
def AccL (P : Nat → Prop) (w : World) (S : Nat) (K many : Int) (l : List Val) (size : Int) (row : Option Nat) : Prop :=
  ∃ va vc xs, StC w S K many (.int .i64 7) (.int .i64 0) (.string ⟨#[]⟩) (.slice none 0 0) (.slice none 0 0) (.slice va l.length vc) size false ∧ row = (Value.slice va l.length vc).ownBlock ∧ w.ownsRow 0 32 6 (.slice va l.length vc) l.length xs ∧
    LRow (fun _ k => P k ∧ k ≠ S ∧ row ≠ some k) w l xs ∧ row ≠ some S ∧ (∀ k, row = some k → P k) ∧ (l.length : Int) ≤ size ∧ size ≤ 65536
theorem ownV_list {x : Val} (h : ¬ ownV (listV [x]) < 0) : 8 ≤ ownV (listV [x]) := by
  unfold ownV at h ⊢
  unfold sizeOf_ at h ⊢
  by_cases hk : okDoc (.mk 6 0 [] [] [([], listV [x])] []) = true
  · rw [if_pos hk] at h ⊢
    rw [wrapDoc_length]
    have h1 : encV (listV [x]) = wrapDoc (encLs 0 [x]) := by
      unfold listV
      rw [encV, if_neg (by omega), if_neg (by omega), if_neg (by omega), if_neg (by omega), if_neg (by omega), if_neg (by omega), if_pos rfl]
    have h2 : 3 ≤ (encLs 0 [x]).length := by
      have : 1 ≤ (itoa 0).length := by unfold itoa; simp
      simp only [encLs, List.length_cons, List.length_append, List.length_nil]
      omega
    have h3 := wrapDoc_length (encLs 0 [x])
    simp only [Val.f, encFs, List.length_cons, List.length_append, List.length_nil, h1]
    omega
  · rw [if_neg hk] at h; simp at h
end Go.Proofs.YtembpajlllnncaaDoor
