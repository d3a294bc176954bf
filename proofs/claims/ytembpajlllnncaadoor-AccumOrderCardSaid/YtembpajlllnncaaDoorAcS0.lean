/- How a weighing ends. -/
import Derived.Test.YtembpajlllnncaaDoorAcT
import Derived.Test.YtembpajlllnncaaDoorBsM
set_option linter.unusedVariables false
set_option linter.unusedSimpArgs false
namespace Go.Proofs.YtembpajlllnncaaDoor
open Go.RowKit

/-- How a weighing ends. -/
def WPost (ok : Prop) (R n : Nat) (w w' : World) (e : Ending) : Prop :=
  Step [R] id id w w' ∧ ((ok ∧ e = done0 ∧ Wgh w' R n) ∨ (¬ ok ∧ e = broke 1 ∧ ∃ s, Wgh w' R s))
def WghF (fuel : Nat) : Prop := ∀ (P : Nat → Prop) (f : List (Bs × Val)) (fa : Option Addr) (fc R s deep : Nat) (w : World), 34 ≤ fuel + deep → deep ≤ 1000 → f.length ≤ fc → f.length ≤ 140737488351232 → FIs P w f fa 0 → Wgh w R s → s ≤ 65536 → Tabs P w → ¬ P R →
  Calls Tryd.prog 45 #[.pointer (some ⟨R, 0, none⟩), .slice fa f.length fc, .int .i64 deep] w fun e w' => WPost (deep ≤ 32 ∧ okFs deep [] f = true ∧ s + (wrapDoc (encFs f)).length ≤ 65536) R (s + (wrapDoc (encFs f)).length) w w' e
def WghV (fuel : Nat) : Prop := ∀ (P : Nat → Prop) (x : Val) (cs : List Value) (R s deep : Nat) (w : World), 33 ≤ fuel + deep → deep ≤ 32 → VIs P w x cs → Wgh w R s → s ≤ 65536 → Tabs P w → ¬ P R →
  Calls Tryd.prog 63 #[.pointer (some ⟨R, 0, none⟩), .agg cs.toArray, .int .i64 deep] w fun e w' => WPost (okV deep x = true ∧ s + (encV x).length ≤ 65536) R (s + (encV x).length) w w' e
theorem add_ok {w : World} {R s n : Nat} (h : Wgh w R s) (hs : s ≤ 65536) (hn : s + n ≤ 65536) :
    Calls Tryd.prog 60 #[.pointer (some ⟨R, 0, none⟩), .int .i64 n] w fun e w' => e = done0 ∧ Wgh w' R (s + n) ∧ Step [R] id id w w' :=
  (bs_add w R s n h hs (by omega)).mono fun e w' h => by
    rcases h with ⟨_, h1, h2, h3⟩ | ⟨h1, _⟩
    · exact ⟨h1, h2, h3⟩
    · exact absurd hn h1
theorem add_bad {w : World} {R s n : Nat} (h : Wgh w R s) (hs : s ≤ 65536) (hn : ¬ s + n ≤ 65536) (hb : n ≤ 9223372036854775807) :
    Calls Tryd.prog 60 #[.pointer (some ⟨R, 0, none⟩), .int .i64 n] w fun e w' => e = broke 1 ∧ w = w' :=
  (bs_add w R s n h hs hb).mono fun e w' h => by
    rcases h with ⟨h1, _⟩ | ⟨_, h1, h2⟩
    · exact absurd h1 hn
    · exact ⟨h1, h2⟩
theorem Wgh.keep {w w' : World} {R s : Nat} (h : Wgh w R s) (hg : w.grownBy w' none) : Wgh w' R s := (hg.block R (lt_of_block h) (by simp)).trans h
theorem Wgh.step {w w' : World} {R s : Nat} (h : Wgh w R s) (hg : Step [] id id w w') : Wgh w' R s := hg.at h (by simp)
theorem Step.plus {T : List Nat} {w w1 w2 : World} (h : Step [] id id w w1) (hg : w1.grownBy w2 none) : Step T id id w w2 :=
  (h.tail (.grown hg (fun _ h => by cases h))).mono (fun _ h => by cases h)
end Go.Proofs.YtembpajlllnncaaDoor
