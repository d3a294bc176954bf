/- Records are added where there is room for all. -/
import Derived.Test.YtlppoimdfclbaaaLawAwake
set_option linter.unusedVariables false
set_option linter.unusedSimpArgs false
namespace Go.Proofs.Ytlppoimdfclbaaa
open Go.RowKit

section
variable {F F2 : List Nat} {g g3 : Nat → Nat} {w wr : World} {ls ms : List (List UInt8)} {ad bd : Option Addr} {rd rl p j : Nat} {D D3 : Dk} {L : Led} {W3 : Wr}

theorem MakeIn.add (hg : GWf g w) (hd : DiskAt g w rd D) (hL : LedgerAt g w rl L) (hdl : rd ≠ rl) (hb : BR [rd, rl] g w ad ls) (hn : ls.length ≤ 1000000) (hl : ∀ l ∈ ls, l.length ≤ 1048640) (hcl : D.clean = true) (hcap : ∀ k, k * room D < (streamOf ls).length → D.pages.length + k < D.most)
    (hin : MakeIn g w rd rl D L ls p wr g3 D3 W3 j) (hjl : j < ls.length) :
    ∃ b o a ci, ad = some ⟨b, o, none⟩ ∧ wr.cell? ⟨b, o + j, none⟩ = some (.slice a ls[j].length ci) ∧
      Calls Try.prog 15 #[.pointer (some ⟨p, 0, none⟩), .slice a ls[j].length ci] wr fun e w4 => e = .returned (.int .i64 0) ∧ ∃ g4 D4 W4, MakeIn g w rd rl D L ls p w4 g4 D4 W4 (j + 1) := by
  obtain ⟨hp0, hwrt, rfl, rfl, hov, hcnt, hinv, hdisk, hled, hds, hst⟩ := hin
  have hplt := hwrt.lt
  have hpd : p ≠ W3.rd := by have := hd.lt; omega
  have hpl : p ≠ W3.rl := by have := hL.lt; omega
  have hheld : (D3.page : Int) ≤ L.held + D.page := by rw [hds.page]; have := hL.h0; omega
  obtain ⟨b, o, a, ci, hae, hcell, hby, hap⟩ := ((hb.add hp0).step hst (by simp)).row j hjl
  refine ⟨b, o, a, ci, hae, hcell, ?_⟩
  refine (tape_add (W := W3) (streamOf (ls.take j)) ls[j] (hst.wf hg) hdisk hled hwrt hov hpd hpl hdl hinv hheld a ci (hl _ (List.getElem_mem _)) hby (by rw [hcnt]; omega) (by rw [hcnt]; omega)).mono ?_
  rintro e w4 ⟨g4, D4, L4, hout, hd4, hL4, hs4⟩
  have hS4 : Step [W3.rd, W3.rl] g g4 w w4 := Step.transNew hg hst hs4 (fun r hr => by
    simp only [List.mem_cons, List.not_mem_nil, or_false] at hr ⊢
    rcases hr with rfl | rfl | rfl
    · exact .inl (.inl rfl)
    · exact .inl (.inr rfl)
    · exact .inr hp0)
  have hsucc := stream_take_succ hjl
  cases hout with
  | @ok _ W4 hw4 hi4 hr4 hds4 =>
    exact ⟨rfl, g4, D4, W4, hp0, hw4, hr4.1, hr4.2.1, hr4.2.2.2, by rw [hr4.2.2.1, hcnt]; simp, by rw [hsucc]; exact hi4, hd4, hL4, hds.trans hds4, hS4⟩
  | bad r hr hds4 ho why =>
    obtain ⟨k, h1, h2⟩ := why (hds.clean.trans hcl)
    have h3 := hds.count
    have h4 := hds.most
    have h5 := stream_take_le ls (j + 1)
    rw [hsucc] at h5
    have hrr : room D3 = room D := by unfold room; rw [hds.page]
    rw [hrr] at h2
    have h6 := hcap k (by omega)
    simp only [List.length_nil] at h3; omega
theorem MakeIn.grow {w2 : World} (h : MakeIn g w rd rl D L ls p wr g3 D3 W3 j) (hs : Step [] g3 g3 wr w2) : MakeIn g w rd rl D L ls p w2 g3 D3 W3 j :=
  ⟨h.new, h.wrt.step hs (by simp), h.rdE, h.rlE, h.over, h.count, h.inv, h.disk.step hs (by simp), h.led.step hs (by simp), h.dstep, h.step.trans hs (by simp)⟩
end
end Go.Proofs.Ytlppoimdfclbaaa
