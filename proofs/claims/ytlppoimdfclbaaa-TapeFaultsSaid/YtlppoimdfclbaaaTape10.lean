/- A Reader: turn. -/
import Derived.Test.YtlppoimdfclbaaaTape9
set_option linter.unusedVariables false
set_option linter.unusedSimpArgs false
namespace Go.Proofs.Ytlppoimdfclbaaa
open Go.RowKit

section
variable {T : List Nat} {g g1 : Nat → Nat} {w w1 : World} {p rd rl : Nat} {t : Tp} {R : Rd} {pv dv : Value} {D : Dk} {L : Led}

inductive TurnOut (D : Dk) (R : Rd) (bad : Prop) (c : List UInt8) : Ending → Rd → Prop where
  | err (r : Int) (hr : (r = 16 ∧ D.clean = false) ∨ (r = 18 ∧ (D.clean = false ∨ bad))) : TurnOut D R bad c (.returned (.int .i64 r)) R
  | ok (h : ¬ bad) : TurnOut D R bad c (.returned (.int .i64 0)) { R with page := R.page + 1, data := c }

theorem rd_turned {w2 w3 : World} {v : Value} {k : Nat} {c : List UInt8} (h3 : RdRaw g w3 p R dv) (hs3 : Step [] g g w2 w3) (hr : Row w3 v c) (hk : v.ownBlock = some k) (hk4 : w2.heap.size ≤ k) (hp2 : p < w2.heap.size) :
    RdAt (giveTo g v p) ((w3.setCell ⟨p, 2, none⟩ (.int .i64 ((R.page : Int) + 1))).setCell ⟨p, 3, none⟩ v) p { R with page := R.page + 1, data := c } ∧ Step [p] g (giveTo g v p) w2 ((w3.setCell ⟨p, 2, none⟩ (.int .i64 ((R.page : Int) + 1))).setCell ⟨p, 3, none⟩ v) := by
  have hb1 := set_blk h3.blk 2 (.int .i64 ((R.page : Int) + 1))
  have hb2 := set_blk hb1 3 v
  have hr1 := ownsRow_setOther (ownsRow_setOther hr h3.blk (by decide) (i := 2) (u := .int .i64 ((R.page : Int) + 1))) hb1 (by decide) (i := 3) (u := v)
  have hst : Step [p] g g w2 ((w3.setCell ⟨p, 2, none⟩ (.int .i64 ((R.page : Int) + 1))).setCell ⟨p, 3, none⟩ v) := ((hs3.mono (by simp)).tail (.set _ _ (by rw [h3.own]; simp))).tail (.set _ _ (by rw [h3.own]; simp))
  refine ⟨⟨v, hb2, giveTo_keep h3.own, Row.bytes hr1, fun j hj => giveTo_same hj, fun e => ?_⟩, hst.giveTo (fun j hj => ⟨?_, ?_⟩) (Nat.lt_of_lt_of_le hp2 hst.size)⟩
  · rw [hk] at e; cases e; omega
  · rw [hk] at hj; cases hj; exact .inl hk4
  · exact (World.ownsRow.lt hr1 j hj).2

set_option maxRecDepth 100000 in
set_option maxHeartbeats 2000000 in
theorem rd_turn (hg : GWf g w) (hd : DiskAt g w t.rd D) (ht : TpAt g w R.tp t) (h : RdAt g w p R) (hpd : p ≠ t.rd) (hpt : p ≠ R.tp) (htd : R.tp ≠ t.rd) (hi : R.page < t.pages.length) (pg c : List UInt8) (hm : (t.pages[R.page], pg) ∈ D.pages) (hc : c.length ≤ D.page - 10)
    (hpg : pg = sealPage D.page (nextOf t.pages R.page) c ∨ (sumSaid pg ≠ sumIs pg ∧ D.clean = true)) (hpl : pg.length = D.page) (hrg : ∀ n ∈ t.pages, 0 ≤ n ∧ n < 16384) :
    Calls Try.prog 61 #[.pointer (some ⟨p, 0, none⟩)] w fun e w' => ∃ g' R', TurnOut D R (sumSaid pg ≠ sumIs pg) c e R' ∧ RdAt g' w' p R' ∧ DiskAt g' w' t.rd D ∧ Step [t.rd, p] g g' w w' := by
  obtain ⟨dv, h⟩ := h
  obtain ⟨tv, ht⟩ := ht
  obtain ⟨gb, cap, rfl⟩ := ht.pages.form (by intro e; rw [e] at hi; simp at hi)
  have c0 : w.cell? ⟨p, 0, none⟩ = some (.pointer (some ⟨R.tp, 0, none⟩)) := h.cell rfl
  have c2 : w.cell? ⟨p, 2, none⟩ = some (.int .i64 R.page) := h.cell rfl
  have t0 : w.cell? ⟨R.tp, 0, none⟩ = some (.pointer (some ⟨t.rd, 0, none⟩)) := ht.cell rfl
  have t1 : w.cell? ⟨R.tp, 1, none⟩ = some (.slice (some ⟨gb, 0, none⟩) t.pages.length cap) := ht.cell rfl
  obtain ⟨n, hn⟩ : ∃ n, n = t.pages[R.page] := ⟨_, rfl⟩
  have tn : w.cell? ⟨gb, R.page, none⟩ = some (.int .i64 n) := by rw [hn]; exact ht.pages.cell hi
  rw [← hn] at hm
  have hi1 : ¬ (t.pages.length : Int) ≤ (R.page : Int) := by omega
  have hi2 : (R.page : Int) < (t.pages.length : Int) := by omega
  have hsh := ht.short
  have hwrap : IntKind.i64.wrap ((R.page : Int) + 1) = (R.page : Int) + 1 := IntWalk.i64_in _ (by omega)
  have hH := Lib.hid h
  have htH := Lib.hid ht
  have hgH := Lib.hid hg
  have hdH := Lib.hid hd
  have hpgH := Lib.hid hpg
  have hmH := Lib.hid hm
  clear h ht hg hd hpg hm hn
  go_enter Try.func61, Try.ntmps61
  go_wp2_with fail
  go_region
  go_wp2_with fail
  refine wp_region_held_drew (S := fun w' => w'.cell? ⟨p, 0, none⟩ = some (.pointer (some ⟨R.tp, 0, none⟩)) ∧ w'.cell? ⟨p, 2, none⟩ = some (.int .i64 R.page) ∧ w'.cell? ⟨R.tp, 0, none⟩ = some (.pointer (some ⟨t.rd, 0, none⟩)) ∧ w'.cell? ⟨R.tp, 1, none⟩ = some (.slice (some ⟨gb, 0, none⟩) t.pages.length cap) ∧ w'.cell? ⟨gb, R.page, none⟩ = some (.int .i64 n)) (by kernel_rfl) ⟨c0, c2, t0, t1, tn⟩ (fun hHeld => ?_)
  refine wpAnyH_take (i := 0) (v := ?_) rfl (by kernel_rfl) (by kernel_rfl) (by kernel_rfl) (fun _ _ _ h => h) (Or.inl ⟨by kernel_rfl, ?_⟩) hHeld ?_
  rotate_left
  · intro w' hSw; (try dsimp only at hSw); go_simp
    all_goals (with_reducible rfl)
  simp only [Act.put, List.getElem_toArray, List.getElem_cons_zero, List.getElem_cons_succ, List.setIfInBounds_toArray, List.set_cons_zero, List.set_cons_succ]
  refine wpAnyH_take (i := 1) (v := ?_) rfl (by kernel_rfl) (by kernel_rfl) (by kernel_rfl) (fun _ _ _ h => h) (Or.inl ⟨by kernel_rfl, ?_⟩) hHeld ?_
  rotate_left
  · intro w' hSw; (try dsimp only at hSw); go_simp
    all_goals (with_reducible rfl)
  simp only [Act.put, List.getElem_toArray, List.getElem_cons_zero, List.getElem_cons_succ, List.setIfInBounds_toArray, List.set_cons_zero, List.set_cons_succ]
  refine wpAnyH_take (i := 2) (v := ?_) rfl (by kernel_rfl) (by kernel_rfl) (by kernel_rfl) (fun _ _ _ h => h) (Or.inl ⟨by kernel_rfl, ?_⟩) hHeld ?_
  rotate_left
  · intro w' hSw; (try dsimp only at hSw); go_simp
    all_goals (with_reducible rfl)
  simp only [Act.put, List.getElem_toArray, List.getElem_cons_zero, List.getElem_cons_succ, List.setIfInBounds_toArray, List.set_cons_zero, List.set_cons_succ]
  refine wpAnyH_take (i := 3) (v := ?_) rfl (by kernel_rfl) (by kernel_rfl) (by kernel_rfl) (fun _ _ _ h => h) (Or.inl ⟨by kernel_rfl, ?_⟩) hHeld ?_
  rotate_left
  · intro w' hSw; (try dsimp only at hSw); go_simp
    all_goals (with_reducible rfl)
  simp only [Act.put, List.getElem_toArray, List.getElem_cons_zero, List.getElem_cons_succ, List.setIfInBounds_toArray, List.set_cons_zero, List.set_cons_succ]
  refine wpAnyH_take (i := 4) (v := ?_) rfl (by kernel_rfl) (by kernel_rfl) (by kernel_rfl) (fun _ _ _ h => h) (Or.inl ⟨by kernel_rfl, ?_⟩) hHeld ?_
  rotate_left
  · intro w' hSw; (try dsimp only at hSw); go_simp
    all_goals (with_reducible rfl)
  simp only [Act.put, List.getElem_toArray, List.getElem_cons_zero, List.getElem_cons_succ, List.setIfInBounds_toArray, List.set_cons_zero, List.set_cons_succ]
  refine wpAnyH_take (i := 5) (v := ?_) rfl (by kernel_rfl) (by kernel_rfl) (by kernel_rfl) (fun _ _ _ h => h) (Or.inl ⟨by kernel_rfl, ?_⟩) hHeld ?_
  rotate_left
  · intro w' hSw; (try dsimp only at hSw); go_simp
    all_goals (with_reducible rfl)
  simp only [Act.put, List.getElem_toArray, List.getElem_cons_zero, List.getElem_cons_succ, List.setIfInBounds_toArray, List.set_cons_zero, List.set_cons_succ]
  refine wpAnyH_take (i := 6) (v := ?_) rfl (by kernel_rfl) (by kernel_rfl) (by kernel_rfl) (fun _ _ _ h => h) (Or.inl ⟨by kernel_rfl, ?_⟩) hHeld ?_
  rotate_left
  · intro w' hSw; (try dsimp only at hSw); go_simp
    all_goals (with_reducible rfl)
  simp only [Act.put, List.getElem_toArray, List.getElem_cons_zero, List.getElem_cons_succ, List.setIfInBounds_toArray, List.set_cons_zero, List.set_cons_succ]
  refine wpAnyH_take (i := 7) (v := ?_) rfl (by kernel_rfl) (by kernel_rfl) (by kernel_rfl) (fun _ _ _ h => h) (Or.inl ⟨by kernel_rfl, ?_⟩) hHeld ?_
  rotate_left
  · intro w' hSw; (try dsimp only at hSw); go_simp
    all_goals (with_reducible rfl)
  simp only [Act.put, List.getElem_toArray, List.getElem_cons_zero, List.getElem_cons_succ, List.setIfInBounds_toArray, List.set_cons_zero, List.set_cons_succ]
  refine wpAnyH_take (i := 8) (v := ?_) rfl (by kernel_rfl) (by kernel_rfl) (by kernel_rfl) (fun _ _ _ h => h) (Or.inl ⟨by kernel_rfl, ?_⟩) hHeld ?_
  rotate_left
  · intro w' hSw; (try dsimp only at hSw); go_simp
    all_goals (with_reducible rfl)
  simp only [Act.put, List.getElem_toArray, List.getElem_cons_zero, List.getElem_cons_succ, List.setIfInBounds_toArray, List.set_cons_zero, List.set_cons_succ]
  refine wpAnyH_take (i := 9) (v := ?_) rfl (by kernel_rfl) (by kernel_rfl) (by kernel_rfl) (fun _ _ _ h => h) (Or.inl ⟨by kernel_rfl, ?_⟩) hHeld ?_
  rotate_left
  · intro w' hSw; (try dsimp only at hSw); go_simp
    all_goals (with_reducible rfl)
  simp only [Act.put, List.getElem_toArray, List.getElem_cons_zero, List.getElem_cons_succ, List.setIfInBounds_toArray, List.set_cons_zero, List.set_cons_succ]
  refine wpAnyH_take (i := 10) (v := ?_) rfl (by kernel_rfl) (by kernel_rfl) (by kernel_rfl) (fun _ _ _ h => h) (Or.inl ⟨by kernel_rfl, ?_⟩) hHeld ?_
  rotate_left
  · intro w' hSw; (try dsimp only at hSw); go_simp
    all_goals (with_reducible rfl)
  simp only [Act.put, List.getElem_toArray, List.getElem_cons_zero, List.getElem_cons_succ, List.setIfInBounds_toArray, List.set_cons_zero, List.set_cons_succ]
  refine wpAnyH_take (i := 11) (v := ?_) rfl (by kernel_rfl) (by kernel_rfl) (by kernel_rfl) (fun _ _ _ h => h) (Or.inl ⟨by kernel_rfl, ?_⟩) hHeld ?_
  rotate_left
  · intro w' hSw; (try dsimp only at hSw); go_simp
    all_goals (with_reducible rfl)
  simp only [Act.put, List.getElem_toArray, List.getElem_cons_zero, List.getElem_cons_succ, List.setIfInBounds_toArray, List.set_cons_zero, List.set_cons_succ]
  refine wpAnyH_take (i := 12) (v := ?_) rfl (by kernel_rfl) (by kernel_rfl) (by kernel_rfl) (fun _ _ _ h => h) (Or.inl ⟨by kernel_rfl, ?_⟩) hHeld ?_
  rotate_left
  · intro w' hSw; (try dsimp only at hSw); go_simp
    all_goals (with_reducible rfl)
  simp only [Act.put, List.getElem_toArray, List.getElem_cons_zero, List.getElem_cons_succ, List.setIfInBounds_toArray, List.set_cons_zero, List.set_cons_succ]
  refine wpAnyH_take (i := 13) (v := ?_) rfl (by kernel_rfl) (by kernel_rfl) (by kernel_rfl) (fun _ _ _ h => h) (Or.inl ⟨by kernel_rfl, ?_⟩) hHeld ?_
  rotate_left
  · intro w' hSw; (try dsimp only at hSw); go_simp
    all_goals (with_reducible rfl)
  simp only [Act.put, List.getElem_toArray, List.getElem_cons_zero, List.getElem_cons_succ, List.setIfInBounds_toArray, List.set_cons_zero, List.set_cons_succ]
  refine wpAnyH_take (i := 14) (v := ?_) rfl (by kernel_rfl) (by kernel_rfl) (by kernel_rfl) (fun _ _ _ h => h) (Or.inl ⟨by kernel_rfl, ?_⟩) hHeld ?_
  rotate_left
  · intro w' hSw; (try dsimp only at hSw); go_simp
    all_goals (with_reducible rfl)
  simp only [Act.put, List.getElem_toArray, List.getElem_cons_zero, List.getElem_cons_succ, List.setIfInBounds_toArray, List.set_cons_zero, List.set_cons_succ]
  refine wpAnyH_take (i := 15) (v := ?_) rfl (by kernel_rfl) (by kernel_rfl) (by kernel_rfl) (fun _ _ _ h => h) (Or.inl ⟨by kernel_rfl, ?_⟩) hHeld ?_
  rotate_left
  · intro w' hSw; (try dsimp only at hSw); go_simp
    all_goals (with_reducible rfl)
  simp only [Act.put, List.getElem_toArray, List.getElem_cons_zero, List.getElem_cons_succ, List.setIfInBounds_toArray, List.set_cons_zero, List.set_cons_succ]
  refine wpAnyH_take (i := 16) (v := ?_) rfl (by kernel_rfl) (by kernel_rfl) (by kernel_rfl) (fun _ _ _ h => h) (Or.inl ⟨by kernel_rfl, ?_⟩) hHeld ?_
  rotate_left
  · intro w' hSw; (try dsimp only at hSw); go_simp
    all_goals (with_reducible rfl)
  simp only [Act.put, List.getElem_toArray, List.getElem_cons_zero, List.getElem_cons_succ, List.setIfInBounds_toArray, List.set_cons_zero, List.set_cons_succ]
  refine wpAnyH_take (i := 17) (v := ?_) rfl (by kernel_rfl) (by kernel_rfl) (by kernel_rfl) (fun _ _ _ h => h) (Or.inl ⟨by kernel_rfl, ?_⟩) hHeld ?_
  rotate_left
  · intro w' hSw; (try dsimp only at hSw); go_simp
    all_goals (with_reducible rfl)
  simp only [Act.put, List.getElem_toArray, List.getElem_cons_zero, List.getElem_cons_succ, List.setIfInBounds_toArray, List.set_cons_zero, List.set_cons_succ]
  refine wpAnyH_take (i := 18) (v := ?_) rfl (by kernel_rfl) (by kernel_rfl) (by kernel_rfl) (fun _ _ _ h => h) (Or.inl ⟨by kernel_rfl, ?_⟩) hHeld ?_
  rotate_left
  · intro w' hSw; (try dsimp only at hSw); go_simp
    all_goals (with_reducible rfl)
  simp only [Act.put, List.getElem_toArray, List.getElem_cons_zero, List.getElem_cons_succ, List.setIfInBounds_toArray, List.set_cons_zero, List.set_cons_succ]
  refine wpAnyH_take (i := 19) (v := ?_) rfl (by kernel_rfl) (by kernel_rfl) (by kernel_rfl) (fun _ _ _ h => h) (Or.inl ⟨by kernel_rfl, ?_⟩) hHeld ?_
  rotate_left
  · intro w' hSw; (try dsimp only at hSw); go_simp
    all_goals (with_reducible rfl)
  simp only [Act.put, List.getElem_toArray, List.getElem_cons_zero, List.getElem_cons_succ, List.setIfInBounds_toArray, List.set_cons_zero, List.set_cons_succ]
  refine wpAnyH_ready (rs := [20]) (by kernel_rfl) (by simp) ?_
  refine AllReadyH.cons (o := _) rfl (fun K hK => ?_) AllReadyH.nil
  go_simp
  have hst0 : Step [] g g w w.drew.drew := Step.drew.tail Step.drew
  refine (disk_read (hdH.out.step hst0 (by simp)) (hst0.wf hgH.out) n pg hmH.out).mono ?_
  rintro e w2 ⟨hout, hd2, hs2⟩
  have hS2 := (hst0.mono (T2 := [t.rd]) (by simp)).trans hs2 (fun _ h => h)
  have h2 := hH.out.step hS2 (by simp; exact hpd)
  have ht2 := htH.out.step hS2 (by simp; exact htd)
  have q0 : w2.cell? ⟨p, 0, none⟩ = some (.pointer (some ⟨R.tp, 0, none⟩)) := h2.cell rfl
  have q2 : w2.cell? ⟨p, 2, none⟩ = some (.int .i64 R.page) := h2.cell rfl
  have q3 : w2.cell? ⟨p, 3, none⟩ = some dv := h2.cell rfl
  have u0 : w2.cell? ⟨R.tp, 0, none⟩ = some (.pointer (some ⟨t.rd, 0, none⟩)) := ht2.cell rfl
  have u1 : w2.cell? ⟨R.tp, 1, none⟩ = some (.slice (some ⟨gb, 0, none⟩) t.pages.length cap) := ht2.cell rfl
  have un : w2.cell? ⟨gb, R.page, none⟩ = some (.int .i64 n) := (cell_of_blk_eq (hS2.keep gb (World.ownsRow.lt htH.out.pages gb rfl).2 (by rw [htH.out.ownp gb rfl]; simp; exact htd)).2).trans tn
  have hS2H := Lib.hid hS2
  have h2H := Lib.hid h2
  have ht2H := Lib.hid ht2
  have hd2H := Lib.hid hd2
  clear hst0 hS2 hs2 h2 ht2 hd2
  clear c0 c2 t0 t1 tn
  cases hout with
  | io hcl =>
    go_wp2_with fail
    refine hK.out _ _ ?_ (fun hHeld => ?_)
    · exact ⟨q0, q2, u0, u1, un⟩
    clear hK K
    try simp only [Act.put, List.getElem_toArray, List.getElem_cons_zero, List.getElem_cons_succ, List.setIfInBounds_toArray, List.set_cons_zero, List.set_cons_succ]
    refine wpAnyH_take (i := 21) (v := ?_) rfl (by kernel_rfl) (by kernel_rfl) (by kernel_rfl) (fun _ _ _ h => h) (Or.inl ⟨by kernel_rfl, ?_⟩) hHeld ?_
    rotate_left
    · intro w' hSw; (try dsimp only at hSw); go_simp
      all_goals (with_reducible rfl)
    simp only [Act.put, List.getElem_toArray, List.getElem_cons_zero, List.getElem_cons_succ, List.setIfInBounds_toArray, List.set_cons_zero, List.set_cons_succ]
    refine wpAnyH_take (i := 22) (v := ?_) rfl (by kernel_rfl) (by kernel_rfl) (by kernel_rfl) (fun _ _ _ h => h) (Or.inl ⟨by kernel_rfl, ?_⟩) hHeld ?_
    rotate_left
    · intro w' hSw; (try dsimp only at hSw); go_simp
      all_goals (with_reducible rfl)
    simp only [Act.put, List.getElem_toArray, List.getElem_cons_zero, List.getElem_cons_succ, List.setIfInBounds_toArray, List.set_cons_zero, List.set_cons_succ]
    refine wpAnyH_take (i := 23) (v := ?_) rfl (by kernel_rfl) (by kernel_rfl) (by kernel_rfl) (fun _ _ _ h => h) (Or.inl ⟨by kernel_rfl, ?_⟩) hHeld ?_
    rotate_left
    · intro w' hSw; (try dsimp only at hSw); go_simp
      all_goals (with_reducible rfl)
    simp only [Act.put, List.getElem_toArray, List.getElem_cons_zero, List.getElem_cons_succ, List.setIfInBounds_toArray, List.set_cons_zero, List.set_cons_succ]
    refine wpAnyH_take (i := 24) (v := ?_) rfl (by kernel_rfl) (by kernel_rfl) (by kernel_rfl) (fun _ _ _ h => h) (Or.inl ⟨by kernel_rfl, ?_⟩) hHeld ?_
    rotate_left
    · intro w' hSw; (try dsimp only at hSw); go_simp
      all_goals (with_reducible rfl)
    simp only [Act.put, List.getElem_toArray, List.getElem_cons_zero, List.getElem_cons_succ, List.setIfInBounds_toArray, List.set_cons_zero, List.set_cons_succ]
    refine wpAnyH_take (i := 25) (v := ?_) rfl (by kernel_rfl) (by kernel_rfl) (by kernel_rfl) (fun _ _ _ h => h) (Or.inl ⟨by kernel_rfl, ?_⟩) hHeld ?_
    rotate_left
    · intro w' hSw; (try dsimp only at hSw); go_simp
      all_goals (with_reducible rfl)
    simp only [Act.put, List.getElem_toArray, List.getElem_cons_zero, List.getElem_cons_succ, List.setIfInBounds_toArray, List.set_cons_zero, List.set_cons_succ]
    refine wpAnyH_done (by kernel_rfl) ?_ _
    go_wp2_with fail
    go_ret
    exact ⟨g, R, .err 16 (.inl ⟨rfl, hcl⟩), ⟨_, h2H.out⟩, hd2H.out, hS2H.out.mono (by simp)⟩
  | ok v k q hq hr hk hk1 =>
    have hql : q.length = D.page := by
      rcases hq with rfl | ⟨_, rfl⟩
      · exact hpl
      · unfold flip0; rw [List.length_set]; exact hpl
    have hval := hdH.out.valid
    obtain ⟨b, cap2, rfl, hcap2, hb2, hcell2⟩ := hr.page hql (by have := hval.lo; omega)
    have hcell2H := Lib.hid hcell2
    have hqH := Lib.hid hq
    clear hr hk hk1 hq hcell2
    go_wp2_with fail
    refine hK.out _ _ ?_ (fun hHeld => ?_)
    · exact ⟨q0, q2, u0, u1, un⟩
    clear hK K
    try simp only [Act.put, List.getElem_toArray, List.getElem_cons_zero, List.getElem_cons_succ, List.setIfInBounds_toArray, List.set_cons_zero, List.set_cons_succ]
    refine wpAnyH_take (i := 21) (v := ?_) rfl (by kernel_rfl) (by kernel_rfl) (by kernel_rfl) (fun _ _ _ h => h) (Or.inl ⟨by kernel_rfl, ?_⟩) hHeld ?_
    rotate_left
    · intro w' hSw; (try dsimp only at hSw); go_simp
      all_goals (with_reducible rfl)
    simp only [Act.put, List.getElem_toArray, List.getElem_cons_zero, List.getElem_cons_succ, List.setIfInBounds_toArray, List.set_cons_zero, List.set_cons_succ]
    refine wpAnyH_take (i := 22) (v := ?_) rfl (by kernel_rfl) (by kernel_rfl) (by kernel_rfl) (fun _ _ _ h => h) (Or.inl ⟨by kernel_rfl, ?_⟩) hHeld ?_
    rotate_left
    · intro w' hSw; (try dsimp only at hSw); go_simp
      all_goals (with_reducible rfl)
    simp only [Act.put, List.getElem_toArray, List.getElem_cons_zero, List.getElem_cons_succ, List.setIfInBounds_toArray, List.set_cons_zero, List.set_cons_succ]
    refine wpAnyH_take (i := 23) (v := ?_) rfl (by kernel_rfl) (by kernel_rfl) (by kernel_rfl) (fun _ _ _ h => h) (Or.inl ⟨by kernel_rfl, ?_⟩) hHeld ?_
    rotate_left
    · intro w' hSw; (try dsimp only at hSw); go_simp
      all_goals (with_reducible rfl)
    simp only [Act.put, List.getElem_toArray, List.getElem_cons_zero, List.getElem_cons_succ, List.setIfInBounds_toArray, List.set_cons_zero, List.set_cons_succ]
    refine wpAnyH_take (i := 24) (v := ?_) rfl (by kernel_rfl) (by kernel_rfl) (by kernel_rfl) (fun _ _ _ h => h) (Or.inl ⟨by kernel_rfl, ?_⟩) hHeld ?_
    rotate_left
    · intro w' hSw; (try dsimp only at hSw); go_simp
      all_goals (with_reducible rfl)
    simp only [Act.put, List.getElem_toArray, List.getElem_cons_zero, List.getElem_cons_succ, List.setIfInBounds_toArray, List.set_cons_zero, List.set_cons_succ]
    refine wpAnyH_take (i := 25) (v := ?_) rfl (by kernel_rfl) (by kernel_rfl) (by kernel_rfl) (fun _ _ _ h => h) (Or.inl ⟨by kernel_rfl, ?_⟩) hHeld ?_
    rotate_left
    · intro w' hSw; (try dsimp only at hSw); go_simp
      all_goals (with_reducible rfl)
    simp only [Act.put, List.getElem_toArray, List.getElem_cons_zero, List.getElem_cons_succ, List.setIfInBounds_toArray, List.set_cons_zero, List.set_cons_succ]
    refine wpAnyH_done (by kernel_rfl) ?_ _
    go_wp2_with fail
    by_cases hsum : sumSaid q = sumIs q
    · have hgood : q = sealPage D.page (nextOf t.pages R.page) c ∧ sumSaid pg = sumIs pg := by
        rcases hqH.out with hq | ⟨hcl, hq⟩
        · rcases hpgH.out with hp | ⟨hp, _⟩
          · exact ⟨hq.trans hp, by rw [← hq]; exact hsum⟩
          · rw [hq] at hsum; exact absurd hsum hp
        · rcases hpgH.out with hp | ⟨_, hp⟩
          · have hv := hval.lo
            have h1 : sumSaid pg = sumIs pg := by rw [hp]; exact sealPage_sum hv hc
            rw [hq] at hsum
            exact absurd hsum (flip0_sum (by omega) h1)
          · rw [hp] at hcl; cases hcl
      obtain ⟨nx, hnx⟩ : ∃ nx, nx = nextOf t.pages R.page := ⟨_, rfl⟩
      rw [← hnx] at hgood
      have hnx0 : -1 ≤ nx ∧ nx < 16384 := by
        rw [hnx]; unfold nextOf
        by_cases hi3 : R.page + 1 < t.pages.length
        · rw [List.getElem?_eq_getElem hi3]; have := hrg _ (List.getElem_mem hi3); simp; omega
        · rw [List.getElem?_eq_none (by omega)]; simp
      have hn1 : nextSaid q = (nx + 1).toNat := by rw [hgood.1]; exact sealPage_next hval.lo hc hnx0.1 hnx0.2
      have hm1 : manySaid q = c.length := by rw [hgood.1]; exact sealPage_many hval.lo hc hval.hi
      have hd1 : (q.drop 6).take c.length = c := by rw [hgood.1]; exact sealPage_data hval.lo hc
      have hopen := seal_open_ok q D.page b cap2 w2 hval hql hcap2 hb2 hcell2H.out hsum (by omega) (by rw [hm1]; exact hc)
      rw [hm1, hd1, show ((nextSaid q : Int) - 1) = nx by omega] at hopen
      refine hopen.mono ?_
      rintro e w3 ⟨v, k, rfl, hr3, hg3, hk3, hk4⟩
      have hs3 : Step [] g g w2 w3 := .grown hg3 (fun _ h => by cases h)
      have h3 := h2H.out.step hs3 (by simp)
      have ht3 := ht2H.out.step hs3 (by simp)
      have hd3 := hd2H.out.step hs3 (by simp)
      have v0 : w3.cell? ⟨p, 0, none⟩ = some (.pointer (some ⟨R.tp, 0, none⟩)) := h3.cell rfl
      have v2 : w3.cell? ⟨p, 2, none⟩ = some (.int .i64 R.page) := h3.cell rfl
      have v3 : w3.cell? ⟨p, 3, none⟩ = some dv := h3.cell rfl
      have x0 : w3.cell? ⟨R.tp, 0, none⟩ = some (.pointer (some ⟨t.rd, 0, none⟩)) := ht3.cell rfl
      have x1 : w3.cell? ⟨R.tp, 1, none⟩ = some (.slice (some ⟨gb, 0, none⟩) t.pages.length cap) := ht3.cell rfl
      have f3 := free_blk h3.blk
      have hgb1 : gb ≠ p := fun e => hpt (by rw [← h3.own, ← e]; exact ht3.ownp gb rfl)
      have hgb2 : p ≠ gb := fun e => hgb1 e.symm
      have htp2 : R.tp ≠ p := fun e => hpt e.symm
      obtain ⟨vad, vn, rfl⟩ := hr3.len
      have hgoodH := Lib.hid hgood
      have hnxH := Lib.hid hnx
      have hr3H := Lib.hid hr3
      have hs3H := Lib.hid hs3
      have h3H := Lib.hid h3
      have ht3H := Lib.hid ht3
      have hd3H := Lib.hid hd3
      have hk3H := Lib.hid hk3
      have hb3 : gb < w3.heap.size := (World.ownsRow.lt ht3.pages gb rfl).2
      clear hopen hgood hnx hr3 hs3 h3 ht3 hd3 hk3 hg3 hn1 hm1 hd1 hsum q0 q2 q3 u0 u1 un
      by_cases hi3 : R.page + 1 < t.pages.length
      · have hi4 : (R.page : Int) + 1 < (t.pages.length : Int) := by omega
        have hnx2 : nx = t.pages[R.page + 1] := by rw [hnxH.out]; unfold nextOf; rw [List.getElem?_eq_getElem hi3]; rfl
        have xn : w3.cell? ⟨gb, R.page + 1, none⟩ = some (.int .i64 nx) := by rw [hnx2]; exact ht3H.out.pages.cell hi3
        clear hnx2
        go_wp2_with fail
        have hi5 : (0 : Int) ≤ (R.page : Int) + 1 := by omega
        go_region
        go_wp2_with fail
        go_region
        go_wp2_with fail
        go_ret
        have hfin := rd_turned (c := c) h3H.out hs3H.out hr3H.out hk3H.out hk4 (lt_of_block h2H.out.blk)
        have hfd := hd2H.out.step hfin.2 (by simp; exact fun e => hpd e.symm)
        exact ⟨_, _, .ok (by rw [hgoodH.out.2]; simp), hfin.1.step (T := []) (Step.drew.tail Step.drew) (by simp), hfd.step (T := []) (Step.drew.tail Step.drew) (by simp), ((hS2H.out.mono (by simp)).trans hfin.2 (by simp)).tail (Step.drew.tail Step.drew)⟩
      · have hi4 : ¬ (R.page : Int) + 1 < (t.pages.length : Int) := by omega
        have hnx2 : nx = -1 := by rw [hnxH.out]; unfold nextOf; rw [List.getElem?_eq_none (by omega)]; rfl
        subst hnx2
        go_wp2_with fail
        go_region
        go_wp2_with fail
        go_ret
        have hfin := rd_turned (c := c) h3H.out hs3H.out hr3H.out hk3H.out hk4 (lt_of_block h2H.out.blk)
        have hfd := hd2H.out.step hfin.2 (by simp; exact fun e => hpd e.symm)
        exact ⟨_, _, .ok (by rw [hgoodH.out.2]; simp), hfin.1.step (T := []) (Step.drew) (by simp), hfd.step (T := []) (Step.drew) (by simp), ((hS2H.out.mono (by simp)).trans hfin.2 (by simp)).tail (Step.drew)⟩
    · refine (seal_open_bad q D.page b cap2 w2 hval hql hcap2 hcell2H.out hsum).mono ?_
      rintro e w3 ⟨rfl, rfl⟩
      go_wp2_with fail
      go_ret
      refine ⟨g, R, .err 18 (.inr ⟨rfl, ?_⟩), ⟨_, h2H.out⟩, hd2H.out, hS2H.out.mono (by simp)⟩
      rcases hqH.out with hq | ⟨hcl, _⟩
      · right; rw [← hq]; exact hsum
      · exact .inl hcl
end
end Go.Proofs.Ytlppoimdfclbaaa
