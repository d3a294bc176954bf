/- A Writer: Abort. -/
import Derived.Test.YtlppoimdfclbaaaTape4
set_option linter.unusedVariables false
set_option linter.unusedSimpArgs false
namespace Go.Proofs.Ytlppoimdfclbaaa
open Go.RowKit

section
variable {T : List Nat} {g g1 : Nat → Nat} {w w1 : World} {p rd : Nat} {W : Wr} {pv dv : Value} {D : Dk} {L : Led}

/-- A Writer that is over. -/
def OverAt (g : Nat → Nat) (w : World) (p : Nat) : Prop := ∃ cs, w.heap[p]? = some (.cells cs 77 (0, 0)) ∧ cs[6]? = some (.bool true) ∧ g p = p
theorem OverAt.step (h : OverAt g w p) (hs : Step T g g1 w w1) (hp : p ∉ T) : OverAt g1 w1 p := by
  obtain ⟨cs, h1, h2, h3⟩ := h
  exact ⟨cs, hs.at h1 (by rw [h3]; exact hp), h2, own_step hs (lt_of_block h1) h3 hp⟩

theorem tape_abort_over (h : OverAt g w p) :
    Calls Try.prog 29 #[.pointer (some ⟨p, 0, none⟩)] w fun e w' => e = .returned (.tuple #[]) ∧ w = w' := by
  obtain ⟨cs, h1, h2, h3⟩ := h
  have c6 : w.cell? ⟨p, 6, none⟩ = some (.bool true) := cell_blk h1 h2
  clear h1 h2 h3
  go_enter Try.func29, Try.ntmps29
  go_wp2_with fail
  all_goals refine bodyPost_ret (results_none rfl _ _ _) rfl ?_
  all_goals exact ⟨rfl, rfl⟩

set_option maxRecDepth 100000 in
set_option maxHeartbeats 2000000 in
theorem tape_abort (hg : GWf g w) (hd : DiskAt g w W.rd D) (hL : LedgerAt g w W.rl L) (hw : WrAt g w p W) (hov : W.over = false) (hpd : p ≠ W.rd) (hpl : p ≠ W.rl) (hdl : W.rd ≠ W.rl) (hp : WPages D W) (hheld : (D.page : Int) ≤ L.held) :
    Calls Try.prog 29 #[.pointer (some ⟨p, 0, none⟩)] w fun e w' => e = .returned (.tuple #[]) ∧ ∃ g' D', DiskAt g' w' W.rd D' ∧ DStep D D' W.pages [] ∧ LedgerAt g' w' W.rl ⟨L.budget, L.held - D.page, L.high⟩ ∧ OverAt g' w' p ∧ Step [W.rd, W.rl, p] g g' w w' := by
  obtain ⟨pv, dv, hw⟩ := hw
  have c6 : w.cell? ⟨p, 6, none⟩ = some (.bool false) := by rw [← hov]; exact hw.cell rfl
  have hgH := Lib.hid hg
  have hdH := Lib.hid hd
  have hLH := Lib.hid hL
  have hwH := Lib.hid hw
  have hovH := Lib.hid hov
  clear hg hd hL hw hov
  go_enter Try.func29, Try.ntmps29
  go_wp2_with fail
  refine (tape_free (p := p) (by decide) hgH.out hdH.out hwH.out.blk rfl rfl hwH.out.pages hwH.out.own hwH.out.ownp hpd hp.nodup hp.inD hwH.out.short).mono ?_
  rintro e w2 ⟨rfl, g2, D2, hd2, hds2, hb2, hs2, ho2⟩
  have hL2 := hLH.out.step hs2 (by simp; exact ⟨fun e => hdl e.symm, fun e => hpl e.symm⟩)
  have hd2H := Lib.hid hd2
  have hds2H := Lib.hid hds2
  have hb2H := Lib.hid hb2
  have hs2H := Lib.hid hs2
  have hL2H := Lib.hid hL2
  have ho2H := Lib.hid ho2
  clear hd2 hds2 hb2 hs2 hL2 ho2
  go_wp2_with fail
  refine (tape_end (W := W) (pv := .slice none 0 0) (dv := dv) hd2H.out hL2H.out hb2H.out ho2H.out hpd hpl (by rw [hds2H.out.page]; exact hheld)).mono ?_
  rintro e w3 ⟨rfl, hL3, hb3, hs3, _⟩
  have hL3H := Lib.hid hL3
  have hb3H := Lib.hid hb3
  have hs3H := Lib.hid hs3
  clear hL3 hb3 hs3
  go_wp2_with fail
  all_goals go_end0
  have h3 := hL3H.out
  rw [hds2H.out.page] at h3
  exact ⟨rfl, g2, D2, hd2H.out.step hs3H.out (by simp; exact ⟨hdl, fun e => hpd e.symm⟩), hds2H.out, h3, ⟨_, hb3H.out, rfl, ho2H.out⟩, (hs2H.out.mono (by simp)).trans hs3H.out (by simp)⟩
end
end Go.Proofs.Ytlppoimdfclbaaa
