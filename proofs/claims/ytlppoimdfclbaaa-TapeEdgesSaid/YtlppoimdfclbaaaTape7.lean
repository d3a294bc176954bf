/- A Writer: Close. -/
import Derived.Test.YtlppoimdfclbaaaTape6
set_option linter.unusedVariables false
set_option linter.unusedSimpArgs false
namespace Go.Proofs.Ytlppoimdfclbaaa
open Go.RowKit

section
variable {T : List Nat} {g g1 : Nat → Nat} {w w1 : World} {p rd rl : Nat} {W : Wr} {pv dv : Value} {D : Dk} {L : Led}

inductive CloseOut (D : Dk) (W : Wr) (S : List UInt8) (g' : Nat → Nat) (w w' : World) : Ending → Dk → Prop where
  | ok {D' : Dk} (t : Nat) (ht : w.heap.size ≤ t) (hl : Laid D' W.pages S) (hd : DStep D D' W.pages W.pages) (h : TpAt g' w' t ⟨W.rd, W.pages, W.count, false⟩) : CloseOut D W S g' w w' (.returned (.tuple #[.pointer (some ⟨t, 0, none⟩), .int .i64 0])) D'
  | io {D' : Dk} (hc : D.clean = false) (hd : DStep D D' W.pages []) : CloseOut D W S g' w w' (.returned (.tuple #[.pointer none, .int .i64 16])) D'

theorem tape_close_over (h : OverAt g w p) :
    Calls Try.prog 16 #[.pointer (some ⟨p, 0, none⟩)] w fun e w' => e = .returned (.tuple #[.pointer none, .int .i64 21]) ∧ w = w' := by
  obtain ⟨cs, h1, h2, h3⟩ := h
  have c6 : w.cell? ⟨p, 6, none⟩ = some (.bool true) := cell_blk h1 h2
  clear h1 h2 h3
  go_enter Try.func16, Try.ntmps16
  go_wp2_with fail
  go_ret2
  exact ⟨rfl, rfl⟩

theorem IRow.same {l : List Int} (h : IRow w pv l) (hk : ∀ k, pv.ownBlock = some k → w1.heap[k]? = w.heap[k]?) : IRow w1 pv l := by
  refine ⟨h.1, ?_⟩
  rcases h.2 with h' | ⟨gb, cap, cur, rfl, hb, hg, rest⟩
  · exact .inl h'
  · exact .inr ⟨gb, cap, cur, rfl, hb, by rw [hk gb rfl]; exact hg, rest⟩
theorem close_tape {g2 : Nat → Nat} {w2 : World} (hg2 : GWf g2 w2) (hr : IRow w2 pv W.pages) (hop : ∀ k, pv.ownBlock = some k → g2 k = p) (hs : W.pages.length ≤ 16384) :
    TpAt (giveTo g2 pv w2.heap.size) (w2.alloc (.cells (tpCells ⟨W.rd, W.pages, W.count, false⟩ pv) 75)) w2.heap.size ⟨W.rd, W.pages, W.count, false⟩ ∧ Step [p] g2 (giveTo g2 pv w2.heap.size) w2 (w2.alloc (.cells (tpCells ⟨W.rd, W.pages, W.count, false⟩ pv) 75)) := by
  refine ⟨⟨pv, heap_alloc_new _ _, giveTo_keep (hg2.2 _ (Nat.le_refl _)), hr.alloc _, fun k hk => giveTo_same hk, hs⟩, (Step.alloc _).giveTo (fun k hk => ⟨?_, ?_⟩) (by simp)⟩
  · right; rw [hop k hk]; simp
  · have := (World.ownsRow.lt hr k hk).2
    simp; omega
set_option maxRecDepth 100000 in
set_option maxHeartbeats 2000000 in
theorem tape_close (S : List UInt8) (hg : GWf g w) (hd : DiskAt g w W.rd D) (hL : LedgerAt g w W.rl L) (hw : WrAt g w p W) (hov : W.over = false) (hpd : p ≠ W.rd) (hpl : p ≠ W.rl) (hdl : W.rd ≠ W.rl) (hi : WInv D W S) (hheld : (D.page : Int) ≤ L.held) :
    Calls Try.prog 16 #[.pointer (some ⟨p, 0, none⟩)] w fun e w' => ∃ g' D', CloseOut D W S g' w w' e D' ∧ DiskAt g' w' W.rd D' ∧ LedgerAt g' w' W.rl ⟨L.budget, L.held - D.page, L.high⟩ ∧ OverAt g' w' p ∧ Step [W.rd, W.rl, p] g g' w w' := by
  have hwa := Lib.hid hw
  obtain ⟨pv, dv, hw⟩ := hw
  have c6 : w.cell? ⟨p, 6, none⟩ = some (.bool false) := by rw [← hov]; exact hw.cell rfl
  obtain ⟨ad, cap, rfl⟩ := hw.pages.len
  have c1 : w.cell? ⟨p, 1, none⟩ = some (.slice ad W.pages.length cap) := hw.cell rfl
  have hplt := lt_of_block hw.blk
  have hgH := Lib.hid hg
  have hdH := Lib.hid hd
  have hLH := Lib.hid hL
  have hwH := Lib.hid hw
  have hovH := Lib.hid hov
  have hiH := Lib.hid hi
  clear hg hd hL hw hov hi
  go_enter Try.func16, Try.ntmps16
  by_cases hp0 : W.pages.length = 0
  · have hnot : ¬ (0 : Int) < (W.pages.length : Int) := by omega
    have hp0H := Lib.hid hp0
    clear hp0
    go_wp2_with fail
    have hd2H := hdH
    have hL2H := hLH
    have hw2H := hwH
    have hg2H := hgH
    have hpd2 := hpd
    have hpl2 := hpl
    have hdl2 := hdl
    have hheld2 := hheld
    refine (tape_end (W := W) (pv := .slice ad W.pages.length cap) hd2H.out hL2H.out hw2H.out.blk hw2H.out.own hpd2 hpl2 hheld2).mono ?_
    rintro e w3 ⟨rfl, hL3, hb3, hs3, hkp3⟩
    have hr3 := hw2H.out.pages.same (fun k hk => hkp3 k (World.ownsRow.lt hw2H.out.pages k hk).2 (fun e => ownsRow_ne hw2H.out.pages hk hw2H.out.blk (by decide) e) (by rw [hw2H.out.ownp k hk]; exact hpl2))
    have k0 : w3.cell? ⟨p, 0, none⟩ = some (.pointer (some ⟨W.rd, 0, none⟩)) := cell_blk hb3 rfl
    have k1 : w3.cell? ⟨p, 1, none⟩ = some (.slice ad W.pages.length cap) := cell_blk hb3 rfl
    have k2 : w3.cell? ⟨p, 2, none⟩ = some (.int .i64 W.count) := cell_blk hb3 rfl
    have k3 : w3.cell? ⟨p, 3, none⟩ = some (.bool false) := cell_blk hb3 rfl
    have hct := close_tape (W := W) (hs3.wf hg2H.out) hr3 hw2H.out.ownp hw2H.out.short
    have hct2 := hd2H.out.step hs3 (by simp; exact ⟨hdl2, fun e => hpd2 e.symm⟩)
    have hctH := Lib.hid hct
    have hct2H := Lib.hid hct2
    have hL3H := Lib.hid hL3
    have hb3H := Lib.hid hb3
    have hs3H := Lib.hid hs3
    have hr3H := Lib.hid hr3
    clear hL3 hb3 hs3 hkp3 hr3 hct hct2
    go_wp2_with fail
    go_ret2
    have hpe : W.pages = [] := List.eq_nil_of_length_eq_zero hp0H.out
    have hne : (Value.slice ad W.pages.length cap).ownBlock ≠ some p := fun e => ownsRow_ne hwH.out.pages e hwH.out.blk (by decide) rfl
    refine ⟨_, D, .ok w3.heap.size hs3H.out.size (by rw [hpe]; exact Laid.none (hiH.out.1.none hpe)) (.refl _ _) hctH.out.1, hct2H.out.step hctH.out.2 (by simp; exact fun e => hpd e.symm), hL3H.out.step hctH.out.2 (by simp; exact fun e => hpl e.symm), ⟨_, alloc_old hb3H.out, rfl, by rw [giveTo_other hne]; exact hwH.out.own⟩, (hs3H.out.mono (by simp)).trans hctH.out.2 (by simp)⟩
  · have hpos : (0 : Int) < (W.pages.length : Int) := by omega
    obtain ⟨ps, n, hps⟩ : ∃ ps n, W.pages = ps ++ [n] := ⟨W.pages.dropLast, W.pages.getLast (fun e => hp0 (by rw [e]; rfl)), (List.dropLast_concat_getLast _).symm⟩
    obtain ⟨pg, hpg⟩ := hiH.out.1.inD n (by rw [hps]; simp)
    have hpsH := Lib.hid hps
    clear hps hp0
    go_wp2_with fail
    refine (tape_write (W := W) hgH.out hdH.out hwa.out hpd (-1) (by omega) (by omega) ps n hpsH.out pg hpg hiH.out.1.data_len).mono ?_
    rintro e w2 ⟨g2, D2, W2, hwr, hd2, hw2, hs2⟩
    have hg2 := hs2.wf hgH.out
    have hL2 := hLH.out.step hs2 (by simp; exact ⟨fun e => hdl e.symm, fun e => hpl e.symm⟩)
    have hL2H := Lib.hid hL2
    have hg2H := Lib.hid hg2
    have hs2H := Lib.hid hs2
    clear hL2 hg2 hs2
    cases hwr with
    | io hc =>
      have hd2H := Lib.hid hd2
      have hw2H := Lib.hid hw2
      clear hd2 hw2
      go_wp2_with fail
      refine (tape_abort (W := { W with data := [] }) hg2H.out hd2H.out hL2H.out hw2H.out hovH.out hpd hpl hdl ⟨hiH.out.1.nodup, hiH.out.1.inD⟩ hheld).mono ?_
      rintro e w3 ⟨rfl, g3, D3, hd3, hds3, hL3, ho3, hs3⟩
      have hfin : ∃ g' D', CloseOut D W S g' w w3 (.returned (.tuple #[.pointer none, .int .i64 16])) D' ∧ DiskAt g' w3 W.rd D' ∧ LedgerAt g' w3 W.rl ⟨L.budget, L.held - D.page, L.high⟩ ∧ OverAt g' w3 p ∧ Step [W.rd, W.rl, p] g g' w w3 := ⟨g3, D3, .io hc hds3, hd3, hL3, ho3, (hs2H.out.mono (by simp)).trans hs3 (fun _ h => h)⟩
      have hfinH := Lib.hid hfin
      clear hd3 hds3 hL3 ho3 hs3 hfin
      go_wp2_with fail
      go_ret2
      exact hfinH.out
    | ok =>
      obtain ⟨pv2, dv2, hw2⟩ := hw2
      obtain ⟨ad2, cap2, rfl⟩ := hw2.pages.len
      have hd2H := Lib.hid hd2
      have hw2H := Lib.hid hw2
      have hpd2 := hpd
      have hpl2 := hpl
      have hdl2 := hdl
      have hheld2 := hheld
      have hst : DStep D { D with pages := pset D.pages n (sealPage D.page (-1) W.data), writes := wrap64 (D.writes + 1) } W.pages W.pages := .write (by rw [hpsH.out]; simp)
      have hstH := Lib.hid hst
      clear hd2 hw2 hst
      go_wp2_with fail
      refine (tape_end (W := { W with data := [] }) (pv := .slice ad2 W.pages.length cap2) hd2H.out hL2H.out hw2H.out.blk hw2H.out.own hpd2 hpl2 hheld2).mono ?_
      rintro e w3 ⟨rfl, hL3, hb3, hs3, hkp3⟩
      have hr3 := hw2H.out.pages.same (fun k hk => hkp3 k (World.ownsRow.lt hw2H.out.pages k hk).2 (fun e => ownsRow_ne hw2H.out.pages hk hw2H.out.blk (by decide) e) (by rw [hw2H.out.ownp k hk]; exact hpl2))
      have k0 : w3.cell? ⟨p, 0, none⟩ = some (.pointer (some ⟨{ W with data := [] }.rd, 0, none⟩)) := cell_blk hb3 rfl
      have k1 : w3.cell? ⟨p, 1, none⟩ = some (.slice ad2 W.pages.length cap2) := cell_blk hb3 rfl
      have k2 : w3.cell? ⟨p, 2, none⟩ = some (.int .i64 { W with data := [] }.count) := cell_blk hb3 rfl
      have k3 : w3.cell? ⟨p, 3, none⟩ = some (.bool false) := cell_blk hb3 rfl
      have hct := close_tape (W := { W with data := [] }) (hs3.wf hg2H.out) hr3 hw2H.out.ownp hw2H.out.short
      have hct2 := hd2H.out.step hs3 (by simp; exact ⟨hdl2, fun e => hpd2 e.symm⟩)
      have hctH := Lib.hid hct
      have hct2H := Lib.hid hct2
      have hL3H := Lib.hid hL3
      have hb3H := Lib.hid hb3
      have hs3H := Lib.hid hs3
      have hr3H := Lib.hid hr3
      clear hL3 hb3 hs3 hkp3 hr3 hct hct2
      go_wp2_with fail
      go_ret2
      have hne : (Value.slice ad2 W.pages.length cap2).ownBlock ≠ some p := fun e => ownsRow_ne hw2H.out.pages e hw2H.out.blk (by decide) rfl
      refine ⟨_, _, .ok w3.heap.size (Nat.le_trans hs2H.out.size hs3H.out.size) (hiH.out.laid hpsH.out) hstH.out hctH.out.1, hct2H.out.step hctH.out.2 (by simp; exact fun e => hpd e.symm), hL3H.out.step hctH.out.2 (by simp; exact fun e => hpl e.symm), ⟨_, alloc_old hb3H.out, rfl, by rw [giveTo_other hne]; exact hw2H.out.own⟩, ((hs2H.out.mono (by simp)).trans hs3H.out (by simp)).trans hctH.out.2 (by simp)⟩
end
end Go.Proofs.Ytlppoimdfclbaaa
