/- Faults that came in, as the disk takes them. -/
import Derived.Test.YtlppoimdfclbaaaLawBack
set_option linter.unusedVariables false
set_option linter.unusedSimpArgs false
namespace Go.Proofs.Ytlppoimdfclbaaa
open Go.RowKit

/-- Faults of an argument. -/
structure FA (g : Nat → Nat) (w : World) (ad : Option Addr) (fl : List (Int × Int)) : Prop where
  own : fl ≠ [] → ∀ k, (Value.slice ad 0 0).ownBlock = some k → k < w.heap.size ∧ g k = k
  row : ∀ i (h : i < fl.length), ∃ b o, ad = some ⟨b, o, none⟩ ∧ w.cell? ⟨b, o + i * 2, none⟩ = some (.int .i64 fl[i].1) ∧ w.cell? ⟨b, o + i * 2 + 1, none⟩ = some (.int .i64 fl[i].2)

section
variable {g g1 : Nat → Nat} {w w1 : World} {ad : Option Addr} {fl : List (Int × Int)}
theorem FA.step (h : FA g w ad fl) (hs : Step [] g g1 w w1) : FA g1 w1 ad fl where
  own := fun hne k hk => by
    obtain ⟨h1, h2⟩ := h.own hne k hk
    exact ⟨hs.lt h1, own_step hs h1 h2 (by simp)⟩
  row := fun i hi => by
    obtain ⟨b, o, he, h1, h2⟩ := h.row i hi
    obtain ⟨h3, _⟩ := h.own (fun e => by subst e; exact absurd hi (by simp)) b (by rw [he]; rfl)
    have h4 := (hs.keep b h3 (by simp)).2
    exact ⟨b, o, he, (cell_of_blk_eq h4).trans h1, (cell_of_blk_eq h4).trans h2⟩

theorem two_cells_new (w : World) (a b : Value) (t : TypeId) : ∀ j u, [a, b][j]? = some u → (w.alloc (.cells #[a, b] t)).cell? ((⟨w.heap.size, 0, none⟩ : Addr).add j) = some u := by
  intro j u hj
  rw [addr_add]
  have h0 := heap_alloc_new w (.cells #[a, b] t)
  match j, hj with
  | 0, hj => exact cell_blk h0 (by simpa using hj)
  | 1, hj => exact cell_blk h0 (by simpa using hj)
theorem faultVals_snoc (l : List (Int × Int)) (f : Int × Int) : faultVals (l ++ [f]) = faultVals l ++ [.int .i64 f.1, .int .i64 f.2] := by simp [faultVals]

set_option maxRecDepth 100000 in
set_option maxHeartbeats 2000000 in
theorem law_faults (c : Nat) (hb : FA g w ad fl) (hn : fl.length ≤ 1000) :
    Calls Try.prog 26 #[.slice ad fl.length c] w fun e w' => ∃ v, e = .returned v ∧ FRow w' v fl ∧ w.grownBy w' none ∧ ∀ k, v.ownBlock = some k → w.heap.size ≤ k := by
  have hbH := Lib.hid hb
  clear hb
  go_enter Try.func26, Try.ntmps26
  go_wp2_with fail
  go_loopw [3, 4] (fun v i wr => ∃ (j : Nat) (va : Option Addr) (vc : Nat), i = .int .i64 j ∧ j ≤ fl.length ∧ v = .slice va j vc ∧ FRow wr (.slice va j vc) (fl.take j) ∧ w.grownBy wr none ∧ ∀ k, (Value.slice va j vc).ownBlock = some k → w.heap.size ≤ k) (fun _ i _ => fl.length - (intOf i).toNat)
  case atStart => exact ⟨0, none, 0, rfl, by omega, rfl, World.ownsRow_nil _ _ _ _, grown_refl _ _, fun _ h => by cases h⟩
  case round =>
    obtain ⟨j, va, vc, rfl, hj, rfl, hrow, hgr, hnew⟩ := hrel
    have hrowH := Lib.hid hrow
    have hgrH := Lib.hid hgr
    have hnewH := Lib.hid hnew
    clear hrow hgr hnew
    by_cases hjl : j < fl.length
    · have hjl1 : (j : Int) < (fl.length : Int) := by omega
      have hj0 : (0 : Int) ≤ (j : Int) := by omega
      have hs : Step [] g g w wr := .grown hgrH.out (fun _ h => by cases h)
      obtain ⟨b, o, hae, k1, k2⟩ := (hbH.out.step hs).row j hjl
      obtain ⟨x, hx⟩ : ∃ x, x = fl[j].1 := ⟨_, rfl⟩
      obtain ⟨y, hy⟩ : ∃ y, y = fl[j].2 := ⟨_, rfl⟩
      rw [← hx] at k1
      rw [← hy] at k2
      have htl : (fl.take j).length = j := by rw [List.length_take]; omega
      have hown : wr.ownsRow 0 89 2 (.slice va j vc) j (faultVals (fl.take j)) := by
        have h := hrowH.out
        unfold FRow at h
        rw [htl] at h
        exact h
      have htk : faultVals (fl.take j) ++ [.int .i64 x, .int .i64 y] = faultVals (fl.take (j + 1)) := by
        rw [List.take_succ_eq_append_getElem hjl, faultVals_snoc, hx, hy]
      have hownH := Lib.hid hown
      have htkH := Lib.hid htk
      have hwrap : IntKind.i64.wrap ((j : Int) + 1) = (j : Int) + 1 := IntWalk.i64_in _ (by omega)
      subst hae
      clear hs hx hy hown htl htk
      obtain ⟨i0, hi, hz0, hz1, hz2⟩ := info_parts info_fault
      go_wp2_with fail
      refine wp_region_held_drew (S := fun w' => w'.cell? ⟨b, o + j * 2, none⟩ = some (.int .i64 x) ∧ w'.cell? ⟨b, o + j * 2 + 1, none⟩ = some (.int .i64 y)) (by kernel_rfl) ⟨k1, k2⟩ (fun hHeld => ?_)
      refine wpAnyH_take (i := 0) (v := ?_) rfl (by kernel_rfl) (by kernel_rfl) (by kernel_rfl) (fun _ _ _ h => h) (Or.inl ⟨by kernel_rfl, ?_⟩) hHeld ?_
      rotate_left
      · intro w' hSw; (try dsimp only at hSw); go_simp
        all_goals (with_reducible rfl)
      simp only [Act.put, List.getElem_toArray, List.getElem_cons_zero, List.getElem_cons_succ, List.setIfInBounds_toArray, List.set_cons_zero, List.set_cons_succ]
      refine wpAnyH_take (i := 1) (v := ?_) rfl (by kernel_rfl) (by kernel_rfl) (by kernel_rfl) (fun _ _ _ h => h) (Or.inl ⟨by kernel_rfl, ?_⟩) hHeld ?_
      rotate_left
      · intro w' hSw; (try dsimp only at hSw); go_simp
        all_goals (with_reducible rfl)
      simp only [Act.put, List.getElem_toArray, List.getElem_cons_zero, List.getElem_cons_succ, List.setIfInBounds_toArray, List.set_cons_zero, List.set_cons_succ]
      refine wpAnyH_take (i := 2) (v := ?_) rfl (by kernel_rfl) (by kernel_rfl) (by kernel_rfl) (fun _ _ _ h => h) (Or.inl ⟨by kernel_rfl, ?_⟩) hHeld ?_
      rotate_left
      · intro w' hSw; (try dsimp only at hSw); go_simp
        all_goals (with_reducible rfl)
      simp only [Act.put, List.getElem_toArray, List.getElem_cons_zero, List.getElem_cons_succ, List.setIfInBounds_toArray, List.set_cons_zero, List.set_cons_succ]
      refine wpAnyH_take (i := 3) (v := ?_) rfl (by kernel_rfl) (by kernel_rfl) (by kernel_rfl) (fun _ _ _ h => h) (Or.inl ⟨by kernel_rfl, ?_⟩) hHeld ?_
      rotate_left
      · intro w' hSw; (try dsimp only at hSw); go_simp
        all_goals (with_reducible rfl)
      simp only [Act.put, List.getElem_toArray, List.getElem_cons_zero, List.getElem_cons_succ, List.setIfInBounds_toArray, List.set_cons_zero, List.set_cons_succ]
      refine wpAnyH_take (i := 4) (v := ?_) rfl (by kernel_rfl) (by kernel_rfl) (by kernel_rfl) (fun _ _ _ h => h) (Or.inl ⟨by kernel_rfl, ?_⟩) hHeld ?_
      rotate_left
      · intro w' hSw; (try dsimp only at hSw); go_simp
        all_goals (with_reducible rfl)
      simp only [Act.put, List.getElem_toArray, List.getElem_cons_zero, List.getElem_cons_succ, List.setIfInBounds_toArray, List.set_cons_zero, List.set_cons_succ]
      refine wpAnyH_take (i := 5) (v := ?_) rfl (by kernel_rfl) (by kernel_rfl) (by kernel_rfl) (fun _ _ _ h => h) (Or.inl ⟨by kernel_rfl, ?_⟩) hHeld ?_
      rotate_left
      · intro w' hSw; (try dsimp only at hSw); go_simp
        all_goals (with_reducible rfl)
      simp only [Act.put, List.getElem_toArray, List.getElem_cons_zero, List.getElem_cons_succ, List.setIfInBounds_toArray, List.set_cons_zero, List.set_cons_succ]
      refine wpAnyH_take (i := 6) (v := ?_) rfl (by kernel_rfl) (by kernel_rfl) (by kernel_rfl) (fun _ _ _ h => h) (Or.inl ⟨by kernel_rfl, ?_⟩) hHeld ?_
      rotate_left
      · intro w' hSw; (try dsimp only at hSw); go_simp
        all_goals (with_reducible rfl)
      simp only [Act.put, List.getElem_toArray, List.getElem_cons_zero, List.getElem_cons_succ, List.setIfInBounds_toArray, List.set_cons_zero, List.set_cons_succ]
      refine wpAnyH_take (i := 7) (v := ?_) rfl (by kernel_rfl) (by kernel_rfl) (by kernel_rfl) (fun _ _ _ h => h) (Or.inl ⟨by kernel_rfl, ?_⟩) hHeld ?_
      rotate_left
      · intro w' hSw; (try dsimp only at hSw); go_simp
        all_goals (with_reducible rfl)
      simp only [Act.put, List.getElem_toArray, List.getElem_cons_zero, List.getElem_cons_succ, List.setIfInBounds_toArray, List.set_cons_zero, List.set_cons_succ]
      refine wpAnyH_take (i := 8) (v := ?_) rfl (by kernel_rfl) (by kernel_rfl) (by kernel_rfl) (fun _ _ _ h => h) (Or.inl ⟨by kernel_rfl, ?_⟩) hHeld ?_
      rotate_left
      · intro w' hSw; (try dsimp only at hSw); go_simp
        all_goals (with_reducible rfl)
      simp only [Act.put, List.getElem_toArray, List.getElem_cons_zero, List.getElem_cons_succ, List.setIfInBounds_toArray, List.set_cons_zero, List.set_cons_succ]
      refine wpAnyH_take (i := 9) (v := ?_) rfl (by kernel_rfl) (by kernel_rfl) (by kernel_rfl) (fun _ _ _ h => h) (Or.inl ⟨by kernel_rfl, ?_⟩) hHeld ?_
      rotate_left
      · intro w' hSw; (try dsimp only at hSw); go_simp
        all_goals (with_reducible rfl)
      simp only [Act.put, List.getElem_toArray, List.getElem_cons_zero, List.getElem_cons_succ, List.setIfInBounds_toArray, List.set_cons_zero, List.set_cons_succ]
      refine wpAnyH_take (i := 10) (v := ?_) rfl (by kernel_rfl) (by kernel_rfl) (by kernel_rfl) (fun _ _ _ h => h) (Or.inl ⟨by kernel_rfl, ?_⟩) hHeld ?_
      rotate_left
      · intro w' hSw; (try dsimp only at hSw); go_simp
        all_goals (with_reducible rfl)
      simp only [Act.put, List.getElem_toArray, List.getElem_cons_zero, List.getElem_cons_succ, List.setIfInBounds_toArray, List.set_cons_zero, List.set_cons_succ]
      refine wpAnyH_take (i := 11) (v := ?_) rfl (by kernel_rfl) (by kernel_rfl) (by kernel_rfl) (fun _ _ _ h => h) (Or.inl ⟨by kernel_rfl, ?_⟩) hHeld ?_
      rotate_left
      · intro w' hSw; (try dsimp only at hSw); go_simp
        all_goals (with_reducible rfl)
      simp only [Act.put, List.getElem_toArray, List.getElem_cons_zero, List.getElem_cons_succ, List.setIfInBounds_toArray, List.set_cons_zero, List.set_cons_succ]
      refine wpAnyH_ready (rs := [12]) (by kernel_rfl) (by simp) ?_
      refine AllReadyH.cons (o := _) rfl (fun K hK => ?_) AllReadyH.nil
      go_simp
      have hlt : b < wr.heap.size := World.block_lt_of_cell? wr _ k1
      have q1 : ((wr.alloc (.cells #[.int .i64 x, .int .i64 y] 89)).drew).cell? ⟨b, o + j * 2, none⟩ = some (.int .i64 x) := (World.cell?_alloc_lt wr _ ⟨b, o + j * 2, none⟩ hlt).trans k1
      have q2 : ((wr.alloc (.cells #[.int .i64 x, .int .i64 y] 89)).drew).cell? ⟨b, o + j * 2 + 1, none⟩ = some (.int .i64 y) := (World.cell?_alloc_lt wr _ ⟨b, o + j * 2 + 1, none⟩ hlt).trans k2
      refine hK.out _ _ ?_ (fun hHeld => ?_)
      · exact ⟨q1, q2⟩
      clear hK K
      try simp only [Act.put, List.getElem_toArray, List.getElem_cons_zero, List.getElem_cons_succ, List.setIfInBounds_toArray, List.set_cons_zero, List.set_cons_succ]
      refine wpAnyH_ready (rs := [13]) (by kernel_rfl) (by simp) ?_
      refine AllReadyH.cons (o := _) rfl (fun K hK => ?_) AllReadyH.nil
      refine wp_app (.tmp 11) (.tmp 23) 52 (by rfl) 89 i0 (.agg #[.int .i64 0, .int .i64 0]) 2 16 Try.underlying52 hi hz0 hz1 hz2 rfl (by decide) (.slice va j vc) j (faultVals (fl.take j)) (by rfl) (by exact hownH.out.alloc _) (.slice (some ⟨wr.heap.size, 0, none⟩) 1 1) 1 [.int .i64 x, .int .i64 y] (by rfl) ⟨rfl, .inr ⟨⟨wr.heap.size, 0, none⟩, 1, rfl, by exact two_cells_new _ _ _ _⟩⟩ (by intro u hu; simp at hu; rcases hu with rfl | rfl <;> rfl) (by omega) (by omega) ?_
      intro ad' c' w1 hown hgrow hnil hat
      have hown2H := Lib.hid hown
      have hgrowH := Lib.hid hgrow
      have hatH := Lib.hid hat
      have hold : ∀ (of : Nat), (w1.cell? ⟨b, of, none⟩ = wr.cell? ⟨b, of, none⟩) := fun of => by
        have h1 : ((wr.alloc (.cells #[.int .i64 x, .int .i64 y] 89)).drew).cell? ⟨b, of, none⟩ = wr.cell? ⟨b, of, none⟩ := World.cell?_alloc_lt wr _ ⟨b, of, none⟩ hlt
        rw [← h1]
        refine World.cell?_of_block (hgrow.block b (by simp; omega) ?_)
        intro e
        have h2 := hnewH.out b e.symm
        have h3 := (hbH.out.own (by intro e; subst e; simp at hjl) b rfl).1
        omega
      have q3 : w1.cell? ⟨b, o + j * 2, none⟩ = some (.int .i64 x) := (hold _).trans k1
      have q4 : w1.cell? ⟨b, o + j * 2 + 1, none⟩ = some (.int .i64 y) := (hold _).trans k2
      clear hown hgrow hnil hat hold
      refine hK.out _ _ ?_ (fun hHeld => ?_)
      · exact ⟨q3, q4⟩
      clear hK K
      try simp only [Act.put, List.getElem_toArray, List.getElem_cons_zero, List.getElem_cons_succ, List.setIfInBounds_toArray, List.set_cons_zero, List.set_cons_succ]
      refine wpAnyH_take (i := 14) (v := ?_) rfl (by kernel_rfl) (by kernel_rfl) (by kernel_rfl) (fun _ _ _ h => h) (Or.inl ⟨by kernel_rfl, ?_⟩) hHeld ?_
      rotate_left
      · intro w' hSw; (try dsimp only at hSw); go_simp
        all_goals (with_reducible rfl)
      simp only [Act.put, List.getElem_toArray, List.getElem_cons_zero, List.getElem_cons_succ, List.setIfInBounds_toArray, List.set_cons_zero, List.set_cons_succ]
      refine wpAnyH_done (by kernel_rfl) ?_ _
      have hgr2 : w.grownBy w1 none := by
        have h1 : w.grownBy (wr.alloc (.cells #[.int .i64 x, .int .i64 y] 89)).drew none := (hgrH.out.trans (World.grownBy_alloc wr _ none)).trans (grown_drew _ _)
        exact grown_fresh h1 hgrowH.out hnewH.out
      have hnew2 : ∀ k, (Value.slice ad' (j + 1) c').ownBlock = some k → w.heap.size ≤ k := fun k hk => by
        rcases hatH.out with h | h
        · exact hnewH.out k (by rw [← h]; exact hk)
        · rw [h] at hk; cases hk
          have := hgrH.out.size
          simp; omega
      have hrow2 : FRow w1 (.slice ad' (j + 1) c') (fl.take (j + 1)) := by
        have h := hown2H.out
        rw [htkH.out] at h
        unfold FRow
        rw [List.length_take, Nat.min_eq_left (by omega)]
        exact h
      have hgr2H := Lib.hid hgr2
      have hnew2H := Lib.hid hnew2
      have hrow2H := Lib.hid hrow2
      clear hgr2 hnew2 hrow2 q1 q2 q3 q4
      go_wp2_with fail
      exact ⟨⟨j + 1, ad', c', by simp, hjl, rfl, hrow2H.out, hgr2H.out, hnew2H.out⟩, by simp only [intOf]; omega⟩
    · have hjl1 : ¬ (j : Int) < (fl.length : Int) := by omega
      have hje : j = fl.length := by omega
      have hjeH := Lib.hid hje
      clear hje
      go_wp2_with fail
      go_ret
      refine ⟨_, rfl, ?_, hgrH.out, hnewH.out⟩
      have h := hrowH.out
      rw [List.take_of_length_le (by rw [hjeH.out]; exact Nat.le_refl _)] at h
      exact h
end
end Go.Proofs.Ytlppoimdfclbaaa
