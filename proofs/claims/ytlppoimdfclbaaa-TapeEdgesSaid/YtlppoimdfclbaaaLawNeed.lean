/- The laws' own functions: need; how many pages a tape has; a second reading. -/
import Derived.Test.YtlppoimdfclbaaaLawAwake
set_option linter.unusedVariables false
set_option linter.unusedSimpArgs false
namespace Go.Proofs.Ytlppoimdfclbaaa
open Go.RowKit

section
variable {F F2 : List Nat} {g g2 : Nat → Nat} {w : World} {ls ms : List (List UInt8)} {ad bd : Option Addr}
theorem stream_len (ls : List (List UInt8)) : (streamOf ls).length = 4 * ls.length + lenSum ls := by
  induction ls with
  | nil => rfl
  | cons l ls ih =>
    have h1 : streamOf (l :: ls) = recOf l ++ streamOf ls := rfl
    have h2 : lenSum (l :: ls) = l.length + lenSum ls := rfl
    rw [h1, h2, List.length_append, ih, recOf, List.length_append, leBytes_length, List.length_cons]; omega
theorem lenSum_mem {l : List UInt8} (h : l ∈ ls) : l.length ≤ lenSum ls := by
  obtain ⟨a, b, rfl⟩ := List.append_of_mem h
  unfold lenSum
  rw [List.map_append, List.map_cons, List.sum_append, List.sum_cons]; omega
theorem lenSum_take (ls : List (List UInt8)) (j : Nat) : lenSum (ls.take j) ≤ lenSum ls := by
  have h : ls = ls.take j ++ ls.drop j := (List.take_append_drop j ls).symm
  conv => rhs; rw [h]
  unfold lenSum
  rw [List.map_append, List.sum_append]; omega

/-- As many pages as need says. -/
theorem Laid.need {D : Dk} {pages : List Int} {S : List UInt8} (h : Laid D pages S) (h0 : 64 ≤ D.page) : (pages.length : Int) = ((S.length : Int) + D.page - 11) / ((D.page : Int) - 10) := by
  have h1 := h.hi
  have h2 := h.lo
  obtain ⟨R, hR⟩ : ∃ R, R = room D := ⟨_, rfl⟩
  have hRp : (D.page : Int) = R + 10 := by unfold room at hR; omega
  rw [← hR] at h1 h2
  rw [hRp]
  have e1 : ((S.length : Int) + (R + 10) - 11) = ((S.length : Int) + R - 1) := by omega
  have e2 : ((R : Int) + 10 - 10) = R := by omega
  rw [e1, e2]
  have hR0 : 0 < R := by unfold room at hR; omega
  have h3 : (pages.length : Int) * R ≤ (S.length : Int) + R - 1 ∧ (S.length : Int) + R - 1 < ((pages.length : Int) + 1) * R := by
    have e3 : ((pages.length : Int) + 1) * R = (pages.length : Int) * R + R := by rw [Int.add_mul, Int.one_mul]
    have e4 : ((pages.length * R : Nat) : Int) = (pages.length : Int) * R := by simp
    rw [e3, ← e4]
    constructor
    · cases hl : pages with
      | nil => simp; omega
      | cons x xs =>
        have h5 := h2 (by rw [hl]; simp)
        rw [hl] at h5
        simp only [List.length_cons, Nat.add_sub_cancel, Nat.add_mul, Nat.one_mul] at h5 ⊢
        omega
    · omega
  have hRi : (0 : Int) < R := by omega
  exact Int.le_antisymm (Int.le_ediv_of_mul_le hRi h3.1) (Int.le_of_lt_add_one (Int.ediv_lt_of_lt_mul hRi h3.2))

theorem BR.take (h : BR F g w ad ls) (k : Nat) : BR F g w ad (ls.take k) where
  own := fun hne => h.own (fun e => hne (by rw [e]; simp))
  row := fun i hi => by
    have hi2 : i < ls.length := by rw [List.length_take] at hi; omega
    obtain ⟨b, o, a, c, h1, h2, h3, h4⟩ := h.row i hi2
    have e : (ls.take k)[i] = ls[i] := by simp
    rw [e]
    exact ⟨b, o, a, c, h1, h2, h3, h4⟩
theorem law_same_true (c d : Nat) (hb : BR F g w ad ls) (hb2 : BR F2 g2 w bd ls) (hn : ls.length ≤ 100000000) :
    Calls Try.prog 21 #[.slice ad ls.length c, .slice bd ls.length d] w fun e w' => e = .returned (.bool true) ∧ ∃ n, w' = w.drewN n :=
  (law_same c d hb hb2 hn hn).mono fun _ _ h => ⟨by rw [h.1]; simp, h.2⟩

set_option maxRecDepth 100000 in
set_option maxHeartbeats 1000000 in
theorem law_need (page c : Nat) (hb : BR F g w ad ls) (hn : ls.length ≤ 100000000) (hl : lenSum ls ≤ 100000000) (hp : 64 ≤ page) (hp2 : page ≤ 4096) :
    Calls Try.prog 28 #[.int .i64 page, .slice ad ls.length c] w fun e w' => e = .returned (.int .i64 ((((streamOf ls).length : Int) + page - 11) / ((page : Int) - 10))) ∧ w = w' := by
  have hbH := Lib.hid hb
  have hSH := Lib.hid (stream_len ls)
  clear hb
  go_enter Try.func28, Try.ntmps28
  go_wp2_with fail
  go_loopw [5, 6] (fun n i wr => ∃ j : Nat, i = .int .i64 j ∧ j ≤ ls.length ∧ n = .int .i64 ((4 * j + lenSum (ls.take j) : Nat) : Int) ∧ wr = w) (fun _ i _ => ls.length - (intOf i).toNat)
  case atStart => exact ⟨0, rfl, by omega, rfl, rfl⟩
  case round =>
    obtain ⟨j, rfl, hj, rfl, rfl⟩ := hrel
    have hb1 := lenSum_take ls j
    by_cases hjl : j < ls.length
    · have hjl1 : (j : Int) < (ls.length : Int) := by omega
      obtain ⟨b, o, a, ci, hae, hcell, hby, hap⟩ := hbH.out.row j hjl
      subst hae
      have hs := lenSum_succ hjl
      have hb2 := lenSum_take ls (j + 1)
      obtain ⟨m, hm⟩ : ∃ m, m = 4 * j + lenSum (ls.take j) := ⟨_, rfl⟩
      obtain ⟨q, hq⟩ : ∃ q, q = ls[j].length := ⟨_, rfl⟩
      rw [← hq] at hcell hs
      have hm2 : m + 4 + q = 4 * (j + 1) + lenSum (ls.take (j + 1)) := by omega
      have hmb : m ≤ 500000000 := by omega
      have hqb : q ≤ 100000000 := by omega
      rw [← hm]
      have hwrap : IntKind.i64.wrap ((j : Int) + 1) = (j : Int) + 1 := IntWalk.i64_in _ (by omega)
      have hm2H := Lib.hid hm2
      clear hs hm hq hby hap hm2 hb1 hb2
      go_wp2_with fail
      refine ⟨⟨j + 1, by simp, hjl, ?_, by simp⟩, by simp only [intOf]; omega⟩
      rw [← hm2H.out]; push_cast; rfl
    · have hjl1 : ¬ (j : Int) < (ls.length : Int) := by omega
      have hje : ls.take j = ls := List.take_of_length_le (by omega)
      have hjq : j = ls.length := by omega
      obtain ⟨m, hm⟩ : ∃ m, m = 4 * j + lenSum (ls.take j) := ⟨_, rfl⟩
      have hm2 : (streamOf ls).length = m := by rw [hSH.out, hm, hje, hjq]
      have hmb : m ≤ 500000000 := by omega
      rw [← hm]
      have hm2H := Lib.hid hm2
      clear hm hje hjq hm2 hb1
      go_wp2_with fail
      go_ret
      rw [hm2H.out]
      exact ⟨rfl, rfl⟩
end
end Go.Proofs.Ytlppoimdfclbaaa
