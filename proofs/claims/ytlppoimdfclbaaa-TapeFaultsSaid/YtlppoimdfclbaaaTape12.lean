/- A Reader: record. -/
import Derived.Test.YtlppoimdfclbaaaTape11
set_option linter.unusedVariables false
set_option linter.unusedSimpArgs false
namespace Go.Proofs.Ytlppoimdfclbaaa
open Go.RowKit

section
variable {T : List Nat} {g g1 : Nat → Nat} {w w1 : World} {p rd rl : Nat} {t : Tp} {R : Rd} {pv dv : Value} {D : Dk} {L : Led} {S : List UInt8}

theorem or_join (a b k : Nat) (ha : a < 2 ^ k) (hb : b * 2 ^ k < 4294967296) (hk : a + b * 2 ^ k < 4294967296) : bits .or .i64 (a : Int) ((b * 2 ^ k : Nat) : Int) = ((a + b * 2 ^ k : Nat) : Int) := by
  rw [i64_or_nat _ _ (by omega) (by omega)]
  congr 1
  have h := Nat.shiftLeft_add_eq_or_of_lt ha b
  rw [Nat.shiftLeft_eq] at h
  rw [Nat.or_comm, ← h, Nat.add_comm]

set_option maxRecDepth 100000 in
set_option maxHeartbeats 4000000 in
theorem rd_record {pos : Nat} (l : List UInt8) (rest : List UInt8) (hg : GWf g w) (hs : RdSt g w p t D R S pos) (hok : PagesOk D t S) (hpd : p ≠ t.rd) (hpt : p ≠ R.tp) (htd : R.tp ≠ t.rd) (hS : S.length ≤ 1000000000) (hl : l.length ≤ 1048640) (hrec : S.drop pos = recOf l ++ rest) :
    Calls Try.prog 41 #[.pointer (some ⟨p, 0, none⟩)] w fun e w' => ∃ g' R' pos', TakeOut D t S (pos + 4) l.length w w' e pos' ∧ RdSt g' w' p t D R' S pos' ∧ (R'.tp = R.tp ∧ R'.rl = R.rl ∧ R'.left = R.left ∧ R'.over = R.over ∧ R'.broken = R.broken) ∧ Step [t.rd, p] g g' w w' := by
  have hlen := congrArg List.length hrec
  have hpos := hs.pos.1
  rw [List.length_drop, List.length_append, recOf, List.length_append, leBytes_length] at hlen
  have hplt : p < w.heap.size := by obtain ⟨_, h⟩ := hs.rd; exact lt_of_block h.blk
  have htlt := hs.tp.lt
  have hdlt := hs.disk.lt
  have hgH := Lib.hid hg
  have hsH := Lib.hid hs
  have hokH := Lib.hid hok
  have hrecH := Lib.hid hrec
  clear hg hs hok hrec
  go_enter Try.func41, Try.ntmps41
  go_wp2_with fail
  refine (rd_take 4 hgH.out hsH.out hokH.out hpd hpt htd (by omega) hS).mono ?_
  rintro e w2 ⟨g2, R2, pos2, hout, hst2, hsame2, hs2⟩
  cases hout with
  | err r pos' hr =>
    have hnr : (r == 0) = false := by rw [beq_eq_false_iff_ne]; omega
    have hnr2 : r ≠ 0 := by omega
    have hfin : ∃ g' R' pos', TakeOut D t S (pos + 4) l.length w w2 (.returned (.tuple #[.slice none 0 0, .int .i64 r])) pos' ∧ RdSt g' w2 p t D R' S pos' ∧ (R'.tp = R.tp ∧ R'.rl = R.rl ∧ R'.left = R.left ∧ R'.over = R.over ∧ R'.broken = R.broken) ∧ Step [t.rd, p] g g' w w2 := ⟨g2, R2, pos2, .err r pos2 hr, hst2, hsame2, hs2⟩
    have hfinH := Lib.hid hfin
    clear hfin hst2 hsame2 hs2 hr
    go_wp2_with fail
    go_ret2
    exact hfinH.out
  | ok v hv hk =>
    have h4 : (S.drop pos).take 4 = leBytes 4 l.length := by rw [hrecH.out, recOf, List.append_assoc, List.take_append_of_le_length (by simp), List.take_of_length_le (by simp)]
    rw [h4] at hv
    obtain ⟨ad, c, rfl⟩ := hv.len
    have hl4 : (leBytes 4 l.length).length = 4 := by simp
    rw [hl4] at hv ⊢
    obtain ⟨gb, cap, hve, _, hgb, hcell⟩ := hv.page hl4 (by omega)
    injection hve with e1 e2 e3
    subst e1 e3
    have b0 := hcell 0 (by omega)
    have b1 := hcell 1 (by omega)
    have b2 := hcell 2 (by omega)
    have b3 := hcell 3 (by omega)
    have hb4 : leBytes 4 l.length = [UInt8.ofNat l.length, UInt8.ofNat (l.length / 256), UInt8.ofNat (l.length / 256 / 256), UInt8.ofNat (l.length / 256 / 256 / 256)] := rfl
    simp only [hb4, List.getElem_cons_zero, List.getElem_cons_succ] at b0 b1 b2 b3
    obtain ⟨x0, hx0⟩ : ∃ x, x = (UInt8.ofNat l.length).toNat := ⟨_, rfl⟩
    obtain ⟨x1, hx1⟩ : ∃ x, x = (UInt8.ofNat (l.length / 256)).toNat := ⟨_, rfl⟩
    obtain ⟨x2, hx2⟩ : ∃ x, x = (UInt8.ofNat (l.length / 256 / 256)).toNat := ⟨_, rfl⟩
    obtain ⟨x3, hx3⟩ : ∃ x, x = (UInt8.ofNat (l.length / 256 / 256 / 256)).toNat := ⟨_, rfl⟩
    rw [← hx0] at b0
    rw [← hx1] at b1
    rw [← hx2] at b2
    rw [← hx3] at b3
    rw [UInt8.toNat_ofNat'] at hx0 hx1 hx2 hx3
    have y0 : x0 < 256 := by omega
    have y1 : x1 < 256 := by omega
    have y2 : x2 < 256 := by omega
    have y3 : x3 < 256 := by omega
    have hsum : x0 + 256 * x1 + 65536 * x2 + 16777216 * x3 = l.length := by omega
    obtain ⟨z1, hz1⟩ : ∃ z, z = x0 + x1 * 2 ^ 8 := ⟨_, rfl⟩
    obtain ⟨z2, hz2⟩ : ∃ z, z = z1 + x2 * 2 ^ 16 := ⟨_, rfl⟩
    have e1 : bits .or .i64 (x0 : Int) ((x1 : Int) * 256) = (z1 : Int) := by
      have := or_join x0 x1 8 (by omega) (by omega) (by omega)
      rw [hz1, ← this]; simp
    have e2 : bits .or .i64 (z1 : Int) ((x2 : Int) * 65536) = (z2 : Int) := by
      have := or_join z1 x2 16 (by omega) (by omega) (by omega)
      rw [hz2, ← this]; simp
    have e3 : bits .or .i64 (z2 : Int) ((x3 : Int) * 16777216) = (l.length : Int) := by
      have := or_join z2 x3 24 (by omega) (by omega) (by omega)
      rw [show l.length = z2 + x3 * 2 ^ 24 by omega, ← this]; simp
    have hst2H := Lib.hid hst2
    have hsame2H := Lib.hid hsame2
    have hs2H := Lib.hid hs2
    have hsumH := Lib.hid hsum
    clear hz1 hz2 hx0 hx1 hx2 hx3 hcell hb4 hv hl4 h4 hk hsum hst2 hsame2 hs2
    go_wp2_with fail
    go_region
    have hll : ¬ (1048640 : Int) < (l.length : Int) := by omega
    go_wp2_with fail
    refine (rd_take (R := R2) (pos := pos + 4) l.length ((hs2H.out.tail Step.drew).wf hgH.out) (by exact hst2H.out.drew) hokH.out hpd (by rw [hsame2H.out.1]; exact hpt) (by rw [hsame2H.out.1]; exact htd) (by omega) hS).mono ?_
    rintro e w3 ⟨g3, R3, pos3, hout3, hst3, hsame3, hs3⟩
    have hS3 := (hs2H.out.tail Step.drew).trans hs3 (fun _ h => h)
    have hsm3 : R3.tp = R.tp ∧ R3.rl = R.rl ∧ R3.left = R.left ∧ R3.over = R.over ∧ R3.broken = R.broken := by
      have h1 := hsame2H.out
      exact ⟨hsame3.1.trans h1.1, hsame3.2.1.trans h1.2.1, hsame3.2.2.1.trans h1.2.2.1, hsame3.2.2.2.1.trans h1.2.2.2.1, hsame3.2.2.2.2.trans h1.2.2.2.2⟩
    have hsz := (hs2H.out.tail Step.drew).size
    have hfin : ∃ g' R' pos', TakeOut D t S (pos + 4) l.length w w3 e pos' ∧ RdSt g' w3 p t D R' S pos' ∧ (R'.tp = R.tp ∧ R'.rl = R.rl ∧ R'.left = R.left ∧ R'.over = R.over ∧ R'.broken = R.broken) ∧ Step [t.rd, p] g g' w w3 := by
      refine ⟨g3, R3, pos3, ?_, hst3, hsm3, hS3⟩
      cases hout3 with
      | err r p' hr => exact .err r _ hr
      | ok v hv hk => exact .ok v hv (fun k h => Nat.le_trans hsz (hk k h))
    have hval : ∃ v r, e = .returned (.tuple #[v, .int .i64 r]) := by
      cases hout3
      · exact ⟨_, _, rfl⟩
      · exact ⟨_, _, rfl⟩
    obtain ⟨v, r, rfl⟩ := hval
    have hfinH := Lib.hid hfin
    clear hfin hst3 hsame3 hs3 hS3 hsm3 hout3
    go_wp2_with fail
    go_ret2
    exact hfinH.out
end
end Go.Proofs.Ytlppoimdfclbaaa
