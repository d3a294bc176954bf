/- heap.Push and heap.Pop once more: nothing turns but the numbers' own two blocks. -/
import Derived.Test.YtlppoimdfclbaaaHeap2
set_option linter.unusedVariables false
set_option linter.unusedSimpArgs false
namespace Go.Proofs.Ytlppoimdfclbaaa
open Go.RowKit

/-- Nothing that was there has turned but the blocks P. -/
structure Keep (w w' : World) (P : Nat → Prop) : Prop where
  os : w'.os = w.os
  tape : w'.tape = w.tape
  output : w'.output = w.output
  size : w.heap.size ≤ w'.heap.size
  keep : ∀ k, k < w.heap.size → ¬ P k → w'.heap[k]? = w.heap[k]?

theorem Keep.step {w w' : World} {P : Nat → Prop} {T : List Nat} {g : Nat → Nat} (h : Keep w w' P) (hp : ∀ k, P k → g k ∈ T) : Step T g g w w' :=
  ⟨h.os, h.tape, h.output, h.size, fun k hk hn => ⟨rfl, h.keep k hk (fun e => hn (hp k e))⟩, fun hw => hw.grow h.size⟩

/-- The numbers, whoever owns them. -/
structure NumsIn (w : World) (bf : Nat) (sv : Value) (l : List Int) : Prop where
  blk : w.heap[bf]? = some (.cells #[sv] 67 (0, 0))
  row : IRow w sv l
  ne : sv.ownBlock ≠ some bf

def ofNums (bf : Nat) (sv : Value) (k : Nat) : Prop := k = bf ∨ sv.ownBlock = some k
/-- The numbers' blocks have one owner of their own. -/
noncomputable def gNums (bf : Nat) (sv : Value) : Nat → Nat := fun k => if k = bf ∨ sv.ownBlock = some k then bf else k
theorem NumsIn.at {w : World} {bf : Nat} {sv : Value} {l : List Int} (h : NumsIn w bf sv l) : NumsAt (gNums bf sv) w bf bf sv l :=
  ⟨h.blk, h.row, by simp [gNums], fun k hk => by simp [gNums, hk], h.ne⟩
theorem keep_of_step {w w' : World} {bf : Nat} {sv : Value} {g' : Nat → Nat} (h : Step [bf] (gNums bf sv) g' w w') : Keep w w' (ofNums bf sv) :=
  ⟨h.os, h.tape, h.output, h.size, fun k hk hn => (h.keep k hk (by
    have : gNums bf sv k = k := if_neg hn
    rw [this]
    intro e
    exact hn (.inl (List.mem_singleton.1 e)))).2⟩
theorem own_of_step {w w' : World} {bf : Nat} {sv : Value} {g' : Nat → Nat} (h : Step [bf] (gNums bf sv) g' w w') {k : Nat} (hk : g' k = bf) (hne : k ≠ bf) : sv.ownBlock = some k ∨ w.heap.size ≤ k := by
  rcases Nat.lt_or_ge k w.heap.size with hlt | hge
  · by_cases hp : ofNums bf sv k
    · rcases hp with hp | hp
      · exact absurd hp hne
      · exact .inl hp
    · have hk1 : gNums bf sv k = k := if_neg hp
      have := (h.keep k hlt (by rw [hk1]; intro e; exact hne (List.mem_singleton.1 e))).1
      rw [hk, hk1] at this
      exact absurd this.symm hne
  · exact .inr hge

theorem heap_push2 (bf : Nat) (sv : Value) (l : List Int) (x : Int) (w : World) (hn : NumsIn w bf sv l) (hl : l.length ≤ 100000) :
    Calls Try.prog 62 #[.iface 66 (.pointer (some ⟨bf, 0, none⟩)), .iface 3 (.int .i64 x)] w fun e w' => e = .returned (.tuple #[]) ∧ ∃ sv' l', l'.Perm (l ++ [x]) ∧ NumsIn w' bf sv' l' ∧ Keep w w' (ofNums bf sv) ∧ ∀ k, sv'.ownBlock = some k → sv.ownBlock = some k ∨ w.heap.size ≤ k :=
  (heap_push (gNums bf sv) bf bf sv l x w hn.at hl (lt_of_block hn.blk)).mono fun e w' ⟨he, g', sv', l', hp, hn', hs⟩ =>
    ⟨he, sv', l', hp, ⟨hn'.blk, hn'.row, hn'.ne⟩, keep_of_step hs, fun k hk => own_of_step hs (hn'.own2 k hk) (fun e => hn'.ne (by rw [hk, e]))⟩

theorem heap_pop2 (bf : Nat) (sv : Value) (l : List Int) (w : World) (hn : NumsIn w bf sv l) (hl : l.length ≤ 100000) (h0 : 0 < l.length) :
    Calls Try.prog 65 #[.iface 66 (.pointer (some ⟨bf, 0, none⟩))] w fun e w' => ∃ x sv' l', e = .returned (.iface 3 (.int .i64 x)) ∧ (l' ++ [x]).Perm l ∧ NumsIn w' bf sv' l' ∧ Keep w w' (ofNums bf sv) ∧ ∀ k, sv'.ownBlock = some k → sv.ownBlock = some k ∨ w.heap.size ≤ k :=
  (heap_pop (gNums bf sv) bf bf sv l w hn.at hl h0).mono fun e w' ⟨x, sv', l', he, hp, hn', hs⟩ =>
    ⟨x, sv', l', he, hp, ⟨hn'.blk, hn'.row, hn'.ne⟩, keep_of_step hs, fun k hk => own_of_step hs (hn'.own2 k hk) (fun e => hn'.ne (by rw [hk, e]))⟩
end Go.Proofs.Ytlppoimdfclbaaa
