/- A Reader: Next. -/
import Derived.Test.YtlppoimdfclbaaaTape12
set_option linter.unusedVariables false
set_option linter.unusedSimpArgs false
namespace Go.Proofs.Ytlppoimdfclbaaa
open Go.RowKit

section
variable {T : List Nat} {g g1 : Nat → Nat} {w w1 : World} {p rd rl : Nat} {t : Tp} {R : Rd} {pv dv : Value} {D : Dk} {L : Led} {S : List UInt8}

set_option maxRecDepth 100000 in
set_option maxHeartbeats 1000000 in
theorem rd_next_end (hd : DiskAt g w t.rd D) (hL : LedgerAt g w R.rl L) (ht : TpAt g w R.tp t) (h : RdAt g w p R) (hov : R.over = false) (hbr : R.broken = false) (hleft : R.left = 0) (hpd : p ≠ t.rd) (hpl : p ≠ R.rl) (hpt : p ≠ R.tp) (htl : R.tp ≠ R.rl) (hdl : t.rd ≠ R.rl) (hheld : (D.page : Int) ≤ L.held) :
    Calls Try.prog 18 #[.pointer (some ⟨p, 0, none⟩)] w fun e w' => e = .returned (.tuple #[.slice none 0 0, .bool false, .int .i64 0]) ∧ LedgerAt g w' R.rl ⟨L.budget, L.held - D.page, L.high⟩ ∧ Step [R.rl, p] g g w w' := by
  have hH := Lib.hid h
  obtain ⟨dv, h⟩ := h
  have c4 : w.cell? ⟨p, 4, none⟩ = some (.int .i64 0) := by rw [← hleft]; exact h.cell rfl
  have c5 : w.cell? ⟨p, 5, none⟩ = some (.bool false) := by rw [← hov]; exact h.cell rfl
  have c6 : w.cell? ⟨p, 6, none⟩ = some (.bool false) := by rw [← hbr]; exact h.cell rfl
  have hdH := Lib.hid hd
  have hLH := Lib.hid hL
  have htH := Lib.hid ht
  have hovH := Lib.hid hov
  clear h hd hL ht hov hbr hleft
  go_enter Try.func18, Try.ntmps18
  go_wp2_with fail
  refine (rd_close hdH.out hLH.out htH.out hH.out hovH.out hpd hpl hpt htl hdl hheld).mono ?_
  rintro e w2 ⟨rfl, h2⟩
  have h2H := Lib.hid h2
  clear h2
  go_wp2_with fail
  go_ret3
  exact ⟨rfl, h2H.out⟩

set_option maxRecDepth 100000 in
theorem bytes_clone_nil (w : World) :
    Calls Try.prog 42 #[.slice none 0 0] w fun e w' => e = .returned (.slice none 0 0) ∧ w = w' := by
  have hnil := fun w : World => Lib.run_eql_slice_nil w 35 5 none 0 0 0 0 Try.underlying35
  go_enter Try.func42, Try.ntmps42
  go_wp2_with fail
  go_ret
  exact ⟨rfl, rfl⟩

theorem RdRaw.set (h : RdRaw g w p R dv) {R' : Rd} (i : Nat) (u : Value) (hc : (rdCells R dv).setIfInBounds i u = rdCells R' dv) (hd : R'.data = R.data) : RdRaw g (w.setCell ⟨p, i, none⟩ u) p R' dv where
  blk := by rw [← hc]; exact set_blk h.blk i u
  own := h.own
  data := by
    rw [hd]
    rcases h.data with h' | ⟨b, o, c, rfl, hc', hb, hcell⟩
    · exact .inl h'
    · refine .inr ⟨b, o, c, rfl, hc', by simpa using hb, fun j hj => ?_⟩
      rw [World.cell?_setCell_other _ _ _ _ (fun e => h.ne (by have h1 := congrArg Addr.block e; simp only at h1; subst h1; rfl))]
      exact hcell j hj
  ownd := h.ownd
  ne := h.ne

theorem RdSt.step {R' : Rd} {pos : Nat} (h : RdSt g w p t D R' S pos) (hs : Step T g g1 w w1) (h1 : p ∉ T) (h2 : R'.tp ∉ T) (h3 : t.rd ∉ T) : RdSt g1 w1 p t D R' S pos :=
  ⟨h.tp.step hs h2, h.rd.step hs h1, h.disk.step hs h3, h.pos, h.le, h.good⟩

inductive NextOut (D : Dk) (t : Tp) (R : Rd) (S l : List UInt8) (pos : Nat) (L : Led) (g' : Nat → Nat) (w w' : World) (p : Nat) : Ending → Led → Prop where
  | ok (v : Value) (R' : Rd) (hv : Row w' v l) (hk : ∀ k, v.ownBlock = some k → w.heap.size ≤ k ∧ g' k = k) (hs : RdSt g' w' p t D R' S (pos + 4 + l.length)) (hR : R'.tp = R.tp ∧ R'.rl = R.rl ∧ R'.left = R.left - 1 ∧ R'.over = R.over ∧ R'.broken = R.broken) :
      NextOut D t R S l pos L g' w w' p (.returned (.tuple #[v, .bool true, .int .i64 0])) L
  | err (r : Int) (hr : (r = 16 ∧ D.clean = false) ∨ (r = 18 ∧ (D.clean = false ∨ ∃ i, BadAt D t.pages i))) : NextOut D t R S l pos L g' w w' p (.returned (.tuple #[.slice none 0 0, .bool false, .int .i64 r])) ⟨L.budget, L.held - D.page, L.high⟩

set_option maxRecDepth 100000 in
set_option maxHeartbeats 4000000 in
theorem rd_next {pos : Nat} (l : List UInt8) (rest : List UInt8) (hg : GWf g w) (hs : RdSt g w p t D R S pos) (hL : LedgerAt g w R.rl L) (hok : PagesOk D t S) (hpd : p ≠ t.rd) (hpl : p ≠ R.rl) (hpt : p ≠ R.tp) (htd : R.tp ≠ t.rd) (htl : R.tp ≠ R.rl) (hdl : t.rd ≠ R.rl) (hheld : (D.page : Int) ≤ L.held)
    (hov : R.over = false) (hbr : R.broken = false) (hl0 : 0 < R.left) (hl1 : R.left ≤ 1000000000) (hS : S.length ≤ 1000000000) (hl : l.length ≤ 1048640) (hrec : S.drop pos = recOf l ++ rest) :
    Calls Try.prog 18 #[.pointer (some ⟨p, 0, none⟩)] w fun e w' => ∃ g' L', NextOut D t R S l pos L g' w w' p e L' ∧ DiskAt g' w' t.rd D ∧ TpAt g' w' R.tp t ∧ LedgerAt g' w' R.rl L' ∧ Step [t.rd, R.rl, p] g g' w w' := by
  obtain ⟨dv, h⟩ := hs.rd
  have c4 : w.cell? ⟨p, 4, none⟩ = some (.int .i64 R.left) := h.cell rfl
  have c5 : w.cell? ⟨p, 5, none⟩ = some (.bool false) := by rw [← hov]; exact h.cell rfl
  have c6 : w.cell? ⟨p, 6, none⟩ = some (.bool false) := by rw [← hbr]; exact h.cell rfl
  have hl2 : (R.left == 0) = false := by rw [beq_eq_false_iff_ne]; omega
  have hgH := Lib.hid hg
  have hsH := Lib.hid hs
  have hLH := Lib.hid hL
  have hokH := Lib.hid hok
  have hovH := Lib.hid hov
  have hbrH := Lib.hid hbr
  have hrecH := Lib.hid hrec
  clear hg hs hL hok hov hbr hrec h
  go_enter Try.func18, Try.ntmps18
  go_wp2_with fail
  refine (rd_record l rest hgH.out hsH.out hokH.out hpd hpt htd hS hl hrecH.out).mono ?_
  rintro e w2 ⟨g2, R2, pos2, hout, hst2, hsame2, hs2⟩
  obtain ⟨dv2, hrd2⟩ := hst2.rd
  have hL2 := hLH.out.step hs2 (by simp; exact ⟨fun e => hdl e.symm, fun e => hpl e.symm⟩)
  have f2 := free_blk hrd2.blk
  have hsame2H := Lib.hid hsame2
  have hst2H := Lib.hid hst2
  have hs2H := Lib.hid hs2
  have hrd2H := Lib.hid hrd2
  have hL2H := Lib.hid hL2
  cases hout with
  | err r pos' hr =>
    have hnr : (r == 0) = false := by rw [beq_eq_false_iff_ne]; omega
    have hnr2 : r ≠ 0 := by omega
    have k6 : w2.cell? ⟨p, 6, none⟩ = some (.bool false) := by rw [← hbrH.out, ← hsame2.2.2.2.2]; exact hrd2.cell rfl
    have hrH := Lib.hid hr
    clear hst2 hsame2 hs2 hrd2 hL2 hr
    go_wp2_with fail
    have hst3 : Step [p] g2 g2 w2 (w2.setCell ⟨p, 6, none⟩ (.bool true)) := .set _ _ (by rw [hrd2H.out.own]; simp)
    have hrd3 := hrd2H.out.set (R' := { R2 with broken := true }) 6 (.bool true) rfl rfl
    have h1 := hsame2H.out
    refine (rd_close (R := { R2 with broken := true }) (t := t) (L := L) (hst2H.out.disk.step hst3 (by simp; exact fun e => hpd e.symm)) (by show LedgerAt g2 _ R2.rl L; rw [h1.2.1]; exact hL2H.out.step hst3 (by simp; exact fun e => hpl e.symm)) (hst2H.out.tp.step hst3 (by rw [h1.1]; simp; exact fun e => hpt e.symm)) ⟨_, hrd3⟩ (h1.2.2.2.1.trans hovH.out) hpd (by show p ≠ R2.rl; rw [h1.2.1]; exact hpl) (by show p ≠ R2.tp; rw [h1.1]; exact hpt) (by show R2.tp ≠ R2.rl; rw [h1.1, h1.2.1]; exact htl) (by show t.rd ≠ R2.rl; rw [h1.2.1]; exact hdl) hheld).mono ?_
    rintro e w4 ⟨rfl, hL4, hs4⟩
    simp only [h1.2.1] at hL4 hs4
    have hst4 : Step [R.rl, p] g2 g2 w2 w4 := (hst3.mono (by simp)).trans hs4 (fun _ h => h)
    have hfin : ∃ g' L', NextOut D t R S l pos L g' w w4 p (.returned (.tuple #[.slice none 0 0, .bool false, .int .i64 r])) L' ∧ DiskAt g' w4 t.rd D ∧ TpAt g' w4 R.tp t ∧ LedgerAt g' w4 R.rl L' ∧ Step [t.rd, R.rl, p] g g' w w4 :=
      ⟨g2, _, .err r hrH.out, hst2H.out.disk.step hst4 (by simp; exact ⟨hdl, fun e => hpd e.symm⟩), by have := hst2H.out.tp.step hst4 (by rw [h1.1]; simp; exact ⟨htl, fun e => hpt e.symm⟩); rw [h1.1] at this; exact this, hL4, (hs2H.out.mono (by simp)).trans hst4 (by simp)⟩
    have hfinH := Lib.hid hfin
    clear hfin hL4 hs4 hst4 hst3 hrd3 h1
    go_wp2_with fail
    go_ret3
    exact hfinH.out
  | ok v hv hk =>
    have k4 : w2.cell? ⟨p, 4, none⟩ = some (.int .i64 R.left) := by rw [← hsame2.2.2.1]; exact hrd2.cell rfl
    have hwrap : IntKind.i64.wrap (R.left - 1) = R.left - 1 := IntWalk.i64_in _ (by omega)
    have hvl : (S.drop (pos + 4)).take l.length = l := by
      rw [← List.drop_drop, hrecH.out, recOf, List.append_assoc, List.drop_append, List.drop_of_length_le (by simp), List.nil_append, leBytes_length, Nat.sub_self, List.drop_zero, List.take_append_of_le_length (Nat.le_refl _), List.take_of_length_le (Nat.le_refl _)]
    rw [hvl] at hv
    have hkH := Lib.hid hk
    have hvH := Lib.hid hv
    have hne : v.ownBlock ≠ some p := fun e => by
      have h1 := hk p e
      obtain ⟨_, h⟩ := hsH.out.rd
      have := lt_of_block h.blk; omega
    have hneH := Lib.hid hne
    clear hst2 hsame2 hs2 hrd2 hL2 hvl hv hk hne
    go_wp2_with fail
    have hst3 : Step [p] g2 g2 w2 (w2.setCell ⟨p, 4, none⟩ (.int .i64 (R.left - 1))) := .set _ _ (by rw [hrd2H.out.own]; simp)
    have hrd3 := hrd2H.out.set (R' := { R2 with left := R.left - 1 }) 4 (.int .i64 (R.left - 1)) rfl rfl
    have hv3 : Row (w2.setCell ⟨p, 4, none⟩ (.int .i64 (R.left - 1))) v l := ownsRow_setCell_other hvH.out hneH.out _
    have h1 := hsame2H.out
    have hst4 : RdSt g2 (w2.setCell ⟨p, 4, none⟩ (.int .i64 (R.left - 1))) p t D { R2 with left := R.left - 1 } S (pos + 4 + l.length) :=
      ⟨hst2H.out.tp.step hst3 (by rw [h1.1]; simp; exact fun e => hpt e.symm), ⟨_, hrd3⟩, hst2H.out.disk.step hst3 (by simp; exact fun e => hpd e.symm), hst2H.out.pos, hst2H.out.le, hst2H.out.good⟩
    have hL3 := hL2H.out.step hst3 (by simp; exact fun e => hpl e.symm)
    have hS3 : Step [t.rd, R.rl, p] g g2 w (w2.setCell ⟨p, 4, none⟩ (.int .i64 (R.left - 1))) := (hs2H.out.mono (by simp)).trans hst3 (by simp)
    have hg3 := hS3.wf hgH.out
    have hfin : ∀ (w3 : World) (v' : Value), Row w3 v' l → (w2.setCell ⟨p, 4, none⟩ (.int .i64 (R.left - 1))).grownBy w3 none → (∀ k, v'.ownBlock = some k → (w2.setCell ⟨p, 4, none⟩ (.int .i64 (R.left - 1))).heap.size ≤ k) →
        ∃ g' L', NextOut D t R S l pos L g' w w3 p (.returned (.tuple #[v', .bool true, .int .i64 0])) L' ∧ DiskAt g' w3 t.rd D ∧ TpAt g' w3 R.tp t ∧ LedgerAt g' w3 R.rl L' ∧ Step [t.rd, R.rl, p] g g' w w3 := fun w3 v' hr hgr hk => by
      have hs : Step [] g2 g2 (w2.setCell ⟨p, 4, none⟩ (.int .i64 (R.left - 1))) w3 := .grown hgr (fun _ h => by cases h)
      have h5 := hst4.step hs (by simp) (by simp) (by simp)
      have htp := h5.tp
      simp only [h1.1] at htp
      exact ⟨g2, L, .ok v' _ hr (fun k h => ⟨Nat.le_trans hS3.size (hk k h), hg3.2 k (hk k h)⟩) h5 ⟨h1.1, h1.2.1, rfl, h1.2.2.2.1, h1.2.2.2.2⟩, h5.disk, htp, hL3.step hs (by simp), hS3.trans hs (by simp)⟩
    have hfinH := Lib.hid hfin
    have hv3H := Lib.hid hv3
    have hlen : l.length ≤ 1000000000 := by omega
    clear hfin hst3 hrd3 hv3 h1 hst4 hL3 hS3 hg3
    rcases Row.bytes hv3H.out with ⟨rfl, hnil⟩ | ⟨b, o, cap, rfl, _⟩
    · refine (bytes_clone_nil _).mono ?_
      rintro e w3 ⟨rfl, rfl⟩
      have hf := hfinH.out _ (.slice none 0 0) hv3H.out (grown_refl _ _) (fun k h => by cases h)
      have hfH := Lib.hid hf
      clear hf
      go_wp2_with fail
      go_ret3
      exact hfH.out
    · refine (bytes_clone l b o cap _ hlen (Row.bytes hv3H.out)).mono ?_
      rintro e w3 ⟨v', k, rfl, hr, hgr, hk, hk2⟩
      have hf := hfinH.out w3 v' hr hgr (fun j h => by rw [hk] at h; cases h; exact hk2)
      have hfH := Lib.hid hf
      clear hf hr hgr hk hk2
      go_wp2_with fail
      go_ret3
      exact hfH.out
end
end Go.Proofs.Ytlppoimdfclbaaa
