/- A Writer: free, end, Abort. -/
import Derived.Test.YtlppoimdfclbaaaTape3
set_option linter.unusedVariables false
set_option linter.unusedSimpArgs false
namespace Go.Proofs.Ytlppoimdfclbaaa
open Go.RowKit

section
variable {T : List Nat} {g g1 : Nat → Nat} {w w1 : World} {p rd : Nat} {W : Wr} {pv dv : Value} {D : Dk}

structure FreeIn (g : Nat → Nat) (w : World) (rd : Nat) (D : Dk) (pages : List Int) (wr : World) (g' : Nat → Nat) (D' : Dk) (j : Nat) : Prop where
  disk : DiskAt g' wr rd D'
  step : Step [rd] g g' w wr
  dstep : DStep D D' pages (pages.drop j)
  inD : ∀ m ∈ pages.drop j, ∃ pg, (m, pg) ∈ D'.pages

set_option maxRecDepth 100000 in
set_option maxHeartbeats 2000000 in
theorem tape_free {cs : Array Value} {ty : TypeId} {pages : List Int} (hty : ty ≠ 3) (hg : GWf g w) (hd : DiskAt g w rd D) (hb : w.heap[p]? = some (.cells cs ty (0, 0))) (h0 : cs[0]? = some (.pointer (some ⟨rd, 0, none⟩))) (h1 : cs[1]? = some pv) (hr : IRow w pv pages) (ho : g p = p) (hop : ∀ k, pv.ownBlock = some k → g k = p)
    (hpd : p ≠ rd) (hnd : pages.Nodup) (hin : ∀ n ∈ pages, ∃ pg, (n, pg) ∈ D.pages) (hl : pages.length ≤ 16384) :
    Calls Try.prog 44 #[.pointer (some ⟨p, 0, none⟩)] w fun e w' => e = .returned (.tuple #[]) ∧ ∃ g' D', DiskAt g' w' rd D' ∧ DStep D D' pages [] ∧ w'.heap[p]? = some (.cells (cs.setIfInBounds 1 (.slice none 0 0)) ty (0, 0)) ∧ Step [rd, p] g g' w w' ∧ g' p = p := by
  obtain ⟨ad, cap, rfl⟩ := hr.len
  have c0 : w.cell? ⟨p, 0, none⟩ = some (.pointer (some ⟨rd, 0, none⟩)) := cell_blk hb h0
  have c1 : w.cell? ⟨p, 1, none⟩ = some (.slice ad pages.length cap) := cell_blk hb h1
  have hgH := Lib.hid hg
  have hdH := Lib.hid hd
  have hbH := Lib.hid hb
  have hrH := Lib.hid hr
  have hrel : FreeIn g w rd D pages w g D 0 := ⟨hd, .refl _ _ _, .refl _ _, hin⟩
  clear hg hd hb hr
  go_enter Try.func44, Try.ntmps44
  go_wp2_with fail
  go_loopw [9] (fun i wr => ∃ (j : Nat) (g' : Nat → Nat) (D' : Dk), i = .int .i64 j ∧ j ≤ pages.length ∧ FreeIn g w rd D pages wr g' D' j) (fun i _ => pages.length - (intOf i).toNat)
  case atStart => exact ⟨0, g, D, rfl, by omega, hrel⟩
  case round =>
    obtain ⟨j, g1, D1, rfl, hj, hin1⟩ := hrel
    have hrr := hrH.out.step hin1.step (fun k hk => by rw [hop k hk]; simp; exact hpd)
    have hbr := hin1.step.at hbH.out (by rw [ho]; simp; exact hpd)
    have k0 : wr.cell? ⟨p, 0, none⟩ = some (.pointer (some ⟨rd, 0, none⟩)) := cell_blk hbr h0
    have k1 : wr.cell? ⟨p, 1, none⟩ = some (.slice ad pages.length cap) := cell_blk hbr h1
    have fr := free_blk hbr
    have hin1H := Lib.hid hin1
    have hbrH := Lib.hid hbr
    have hrrH := Lib.hid hrr
    clear hin1 hbr hrr c0 c1
    by_cases hjl : j < pages.length
    · have hji : (j : Int) < (pages.length : Int) := by omega
      obtain ⟨gb, cap', hpv⟩ := hrrH.out.form (by intro e; rw [e] at hjl; simp at hjl)
      injection hpv with e1 e2 e3
      subst e1 e3
      have hcell : wr.cell? ⟨gb, j, none⟩ = some (.int .i64 pages[j]) := hrrH.out.cell hjl
      obtain ⟨n, hn⟩ : ∃ n, n = pages[j] := ⟨_, rfl⟩
      rw [← hn] at hcell
      have hwrap : IntKind.i64.wrap ((j : Int) + 1) = (j : Int) + 1 := IntWalk.i64_in _ (by omega)
      have hdrop : pages.drop j = n :: pages.drop (j + 1) := by rw [hn]; exact List.drop_eq_getElem_cons hjl
      have hdropH := Lib.hid hdrop
      clear hdrop hn
      go_wp2_with fail
      obtain ⟨pg, hpg⟩ := hin1H.out.inD n (by rw [hdropH.out]; exact List.mem_cons_self ..)
      refine (disk_free hin1H.out.disk n pg hpg).mono ?_
      rintro e w2 ⟨rfl, g2, hd2, hs2⟩
      have hnd2 : (n :: pages.drop (j + 1)).Nodup := by rw [← hdropH.out]; exact hnd.sublist (List.drop_sublist _ _)
      have hst := DStep.free (q := pg) hin1H.out.disk.keys hpg hnd2
      have hnew : FreeIn g w rd D pages w2 g2 { D1 with pages := pdel D1.pages n } (j + 1) := ⟨hd2, hin1H.out.step.tail hs2, (hdropH.out ▸ hin1H.out.dstep).trans hst, fun m hm => by
        obtain ⟨q, hq⟩ := hin1H.out.inD m (by rw [hdropH.out]; exact List.mem_cons_of_mem _ hm)
        exact ⟨q, mem_pdel.2 ⟨hq, fun e => (List.nodup_cons.1 hnd2).1 (by rw [← e]; exact hm)⟩⟩⟩
      have hnewH := Lib.hid hnew
      clear hd2 hs2 hst hnew hnd2
      go_wp2_with fail
      exact ⟨⟨j + 1, g2, _, by simp, by omega, hnewH.out⟩, by simp only [intOf]; omega⟩
    · have hji : ¬ (j : Int) < (pages.length : Int) := by omega
      have hje : j = pages.length := by omega
      go_wp2_with fail
      go_end0
      have hs2 := hin1H.out.step.mono (T2 := [rd, p]) (by simp)
      have hds := hin1H.out.dstep
      rw [hje, List.drop_length] at hds
      have hst : Step [rd, p] g g1 w (wr.setCell ⟨p, 1, none⟩ (.slice none 0 0)) := hs2.tail (.set _ _ (by rw [hin1H.out.step.own_at hbH.out (by rw [ho]; simp; exact hpd), ho]; simp))
      refine ⟨rfl, g1, D1, ?_, hds, set_blk hbrH.out 1 _, hst, by rw [hin1H.out.step.own_at hbH.out (by rw [ho]; simp; exact hpd), ho]⟩
      exact hin1H.out.disk.step (T := [p]) (g1 := g1) (w1 := wr.setCell ⟨p, 1, none⟩ (.slice none 0 0)) (.set _ _ (by rw [hin1H.out.step.own_at hbH.out (by rw [ho]; simp; exact hpd), ho]; simp)) (by simp; exact fun e => hpd e.symm)

set_option maxRecDepth 100000 in
set_option maxHeartbeats 2000000 in
theorem tape_end {L : Led} (hd : DiskAt g w W.rd D) (hL : LedgerAt g w W.rl L) (hb : w.heap[p]? = some (.cells (wrCells W pv dv) 77 (0, 0))) (ho : g p = p) (hpd : p ≠ W.rd) (hpl : p ≠ W.rl) (hheld : (D.page : Int) ≤ L.held) :
    Calls Try.prog 40 #[.pointer (some ⟨p, 0, none⟩)] w fun e w' => e = .returned (.tuple #[]) ∧ LedgerAt g w' W.rl ⟨L.budget, L.held - D.page, L.high⟩ ∧ w'.heap[p]? = some (.cells (wrCells { W with over := true } pv (.slice none 0 0)) 77 (0, 0)) ∧ Step [W.rl, p] g g w w' ∧ (∀ k, k < w.heap.size → k ≠ p → g k ≠ W.rl → w'.heap[k]? = w.heap[k]?) := by
  have c0 : w.cell? ⟨p, 0, none⟩ = some (.pointer (some ⟨W.rd, 0, none⟩)) := cell_blk hb rfl
  have c4 : w.cell? ⟨p, 4, none⟩ = some (.pointer (some ⟨W.rl, 0, none⟩)) := cell_blk hb rfl
  have c5 : w.cell? ⟨p, 5, none⟩ = some dv := cell_blk hb rfl
  have c6 : w.cell? ⟨p, 6, none⟩ = some (.bool W.over) := cell_blk hb rfl
  have f0 := free_blk hb
  have hdH := Lib.hid hd
  have hLH := Lib.hid hL
  have hbH := Lib.hid hb
  clear hd hL hb
  go_enter Try.func40, Try.ntmps40
  go_wp2_with fail
  have hb2 : ((w.setCell ⟨p, 6, none⟩ (.bool true)).setCell ⟨p, 5, none⟩ (.slice none 0 0)).heap[p]? = some (.cells (wrCells { W with over := true } pv (.slice none 0 0)) 77 (0, 0)) := set_blk (set_blk hbH.out 6 _) 5 _
  have hs2 : Step [p] g g w ((w.setCell ⟨p, 6, none⟩ (.bool true)).setCell ⟨p, 5, none⟩ (.slice none 0 0)) := (Step.set _ _ (by rw [ho]; simp)).tail (.set _ _ (by rw [ho]; simp))
  have hkp2 : ∀ k, k ≠ p → ((w.setCell ⟨p, 6, none⟩ (.bool true)).setCell ⟨p, 5, none⟩ (.slice none 0 0)).heap[k]? = w.heap[k]? := fun k hk => by rw [Below.heap_setCell _ _ _ _ hk, Below.heap_setCell _ _ _ _ hk]
  obtain ⟨w2, hw2⟩ : ∃ x, x = ((w.setCell ⟨p, 6, none⟩ (.bool true)).setCell ⟨p, 5, none⟩ (.slice none 0 0)) := ⟨_, rfl⟩
  rw [← hw2] at hb2 hs2 hkp2 ⊢
  have k0 : w2.cell? ⟨p, 0, none⟩ = some (.pointer (some ⟨W.rd, 0, none⟩)) := cell_blk hb2 rfl
  have k4 : w2.cell? ⟨p, 4, none⟩ = some (.pointer (some ⟨W.rl, 0, none⟩)) := cell_blk hb2 rfl
  have hb2H := Lib.hid hb2
  have hs2H := Lib.hid hs2
  have hkp2H := Lib.hid hkp2
  clear hb2 hs2 hw2 hkp2 c0 c4 c5 c6 f0
  refine wp_region_held_drew (S := fun w' => w'.cell? ⟨p, 0, none⟩ = some (.pointer (some ⟨W.rd, 0, none⟩)) ∧ w'.cell? ⟨p, 4, none⟩ = some (.pointer (some ⟨W.rl, 0, none⟩))) (by kernel_rfl) ⟨k0, k4⟩ (fun hHeld => ?_)
  refine wpAnyH_take (i := 0) (v := ?_) rfl (by kernel_rfl) (by kernel_rfl) (by kernel_rfl) (fun _ _ _ h => h) (Or.inl ⟨by kernel_rfl, ?_⟩) hHeld ?_
  rotate_left
  · intro w' hSw; (try dsimp only at hSw); go_simp
    all_goals (with_reducible rfl)
  simp only [Act.put, List.getElem_toArray, List.getElem_cons_zero, List.getElem_cons_succ, List.setIfInBounds_toArray, List.set_cons_zero, List.set_cons_succ]
  refine wpAnyH_take (i := 1) (v := ?_) rfl (by kernel_rfl) (by kernel_rfl) (by kernel_rfl) (fun _ _ _ h => h) (Or.inl ⟨by kernel_rfl, ?_⟩) hHeld ?_
  rotate_left
  · intro w' hSw; (try dsimp only at hSw); go_simp
    all_goals (with_reducible rfl)
  simp only [Act.put, List.getElem_toArray, List.getElem_cons_zero, List.getElem_cons_succ, List.setIfInBounds_toArray, List.set_cons_zero, List.set_cons_succ]
  refine wpAnyH_take (i := 2) (v := ?_) rfl (by kernel_rfl) (by kernel_rfl) (by kernel_rfl) (fun _ _ _ h => h) (Or.inl ⟨by kernel_rfl, ?_⟩) hHeld ?_
  rotate_left
  · intro w' hSw; (try dsimp only at hSw); go_simp
    all_goals (with_reducible rfl)
  simp only [Act.put, List.getElem_toArray, List.getElem_cons_zero, List.getElem_cons_succ, List.setIfInBounds_toArray, List.set_cons_zero, List.set_cons_succ]
  refine wpAnyH_take (i := 3) (v := ?_) rfl (by kernel_rfl) (by kernel_rfl) (by kernel_rfl) (fun _ _ _ h => h) (Or.inl ⟨by kernel_rfl, ?_⟩) hHeld ?_
  rotate_left
  · intro w' hSw; (try dsimp only at hSw); go_simp
    all_goals (with_reducible rfl)
  simp only [Act.put, List.getElem_toArray, List.getElem_cons_zero, List.getElem_cons_succ, List.setIfInBounds_toArray, List.set_cons_zero, List.set_cons_succ]
  refine wpAnyH_take (i := 4) (v := ?_) rfl (by kernel_rfl) (by kernel_rfl) (by kernel_rfl) (fun _ _ _ h => h) (Or.inl ⟨by kernel_rfl, ?_⟩) hHeld ?_
  rotate_left
  · intro w' hSw; (try dsimp only at hSw); go_simp
    all_goals (with_reducible rfl)
  simp only [Act.put, List.getElem_toArray, List.getElem_cons_zero, List.getElem_cons_succ, List.setIfInBounds_toArray, List.set_cons_zero, List.set_cons_succ]
  refine wpAnyH_take (i := 5) (v := ?_) rfl (by kernel_rfl) (by kernel_rfl) (by kernel_rfl) (fun _ _ _ h => h) (Or.inl ⟨by kernel_rfl, ?_⟩) hHeld ?_
  rotate_left
  · intro w' hSw; (try dsimp only at hSw); go_simp
    all_goals (with_reducible rfl)
  simp only [Act.put, List.getElem_toArray, List.getElem_cons_zero, List.getElem_cons_succ, List.setIfInBounds_toArray, List.set_cons_zero, List.set_cons_succ]
  refine wpAnyH_take (i := 6) (v := ?_) rfl (by kernel_rfl) (by kernel_rfl) (by kernel_rfl) (fun _ _ _ h => h) (Or.inl ⟨by kernel_rfl, ?_⟩) hHeld ?_
  rotate_left
  · intro w' hSw; (try dsimp only at hSw); go_simp
    all_goals (with_reducible rfl)
  simp only [Act.put, List.getElem_toArray, List.getElem_cons_zero, List.getElem_cons_succ, List.setIfInBounds_toArray, List.set_cons_zero, List.set_cons_succ]
  refine wpAnyH_take (i := 7) (v := ?_) rfl (by kernel_rfl) (by kernel_rfl) (by kernel_rfl) (fun _ _ _ h => h) (Or.inl ⟨by kernel_rfl, ?_⟩) hHeld ?_
  rotate_left
  · intro w' hSw; (try dsimp only at hSw); go_simp
    all_goals (with_reducible rfl)
  simp only [Act.put, List.getElem_toArray, List.getElem_cons_zero, List.getElem_cons_succ, List.setIfInBounds_toArray, List.set_cons_zero, List.set_cons_succ]
  refine wpAnyH_take (i := 8) (v := ?_) rfl (by kernel_rfl) (by kernel_rfl) (by kernel_rfl) (fun _ _ _ h => h) (Or.inl ⟨by kernel_rfl, ?_⟩) hHeld ?_
  rotate_left
  · intro w' hSw; (try dsimp only at hSw); go_simp
    all_goals (with_reducible rfl)
  simp only [Act.put, List.getElem_toArray, List.getElem_cons_zero, List.getElem_cons_succ, List.setIfInBounds_toArray, List.set_cons_zero, List.set_cons_succ]
  refine wpAnyH_ready (rs := [9]) (by kernel_rfl) (by simp) ?_
  refine AllReadyH.cons (o := _) rfl (fun K hK => ?_) AllReadyH.nil
  go_simp
  refine (disk_page ((hdH.out.step hs2H.out (by simp; exact fun e => hpd e.symm)).step (T := []) (g1 := g) (w1 := w2.drew) Step.drew (by simp))).mono ?_
  rintro e w' ⟨rfl, rfl⟩
  go_wp2_with fail
  refine hK.out _ _ ?_ (fun hHeld => ?_)
  · exact ⟨k0, k4⟩
  clear hK K
  try simp only [Act.put, List.getElem_toArray, List.getElem_cons_zero, List.getElem_cons_succ, List.setIfInBounds_toArray, List.set_cons_zero, List.set_cons_succ]
  refine wpAnyH_ready (rs := [10]) (by kernel_rfl) (by simp) ?_
  refine AllReadyH.cons (o := _) rfl (fun K hK => ?_) AllReadyH.nil
  go_simp
  refine (ledger_give (D.page : Int) g w2.drew W.rl L ((hLH.out.step hs2H.out (by simp; exact fun e => hpl e.symm)).step (T := []) Step.drew (by simp)) (by omega) hheld).mono ?_
  rintro e w3 ⟨rfl, hL3, hs3, _⟩
  have hb3 : w3.heap[p]? = some (.cells (wrCells { W with over := true } pv (.slice none 0 0)) 77 (0, 0)) := hs3.at (drew_blk hb2H.out) (by rw [ho]; simp; exact hpl)
  have m0 : w3.cell? ⟨p, 0, none⟩ = some (.pointer (some ⟨W.rd, 0, none⟩)) := cell_blk hb3 rfl
  have m4 : w3.cell? ⟨p, 4, none⟩ = some (.pointer (some ⟨W.rl, 0, none⟩)) := cell_blk hb3 rfl
  have hS : Step [W.rl, p] g g w w3 := ((hs2H.out.mono (by simp)).tail Step.drew).trans hs3 (by simp)
  have hkp3 : ∀ k, k < w.heap.size → k ≠ p → g k ≠ W.rl → w3.heap[k]? = w.heap[k]? := fun k h1 h2 h3 => by
    rw [(hs3.keep k (Nat.lt_of_lt_of_le h1 hs2H.out.size) (by simp; exact h3)).2]; exact hkp2H.out k h2
  have hkp3H := Lib.hid hkp3
  clear hkp3
  have hL3H := Lib.hid hL3
  have hb3H := Lib.hid hb3
  have hSH := Lib.hid hS
  clear hL3 hs3 hb3 hS
  go_wp2_with fail
  refine hK.out _ _ ?_ (fun hHeld => ?_)
  · exact ⟨m0, m4⟩
  clear hK K
  try simp only [Act.put, List.getElem_toArray, List.getElem_cons_zero, List.getElem_cons_succ, List.setIfInBounds_toArray, List.set_cons_zero, List.set_cons_succ]
  refine wpAnyH_done (by kernel_rfl) ?_ _
  go_wp2_with fail
  go_end0
  exact ⟨rfl, hL3H.out, hb3H.out, hSH.out, hkp3H.out⟩
end
end Go.Proofs.Ytlppoimdfclbaaa
