/- The laws' own functions: Few, same, need. -/
import Derived.Test.YtlppoimdfclbaaaLawRead
set_option linter.unusedVariables false
set_option linter.unusedSimpArgs false
namespace Go.Proofs.Ytlppoimdfclbaaa
open Go.RowKit

theorem Laid.ok {D : Dk} {t : Tp} {S : List UInt8} (h : Laid D t.pages S) (hrg : ∀ n ∈ t.pages, 0 ≤ n ∧ n < 16384) (hv : ValidPage D.page) : PagesOk D t S :=
  ⟨h.hi, hrg, fun i hi => ⟨_, h.lie i hi, sealPage_length hv.lo (chunk_len _ _ _), .inl rfl⟩⟩
theorem Laid.notBad {D : Dk} {pages : List Int} {S : List UInt8} (h : Laid D pages S) (hv : ValidPage D.page) (hk : KeysNd D) (i : Nat) : ¬ BadAt D pages i := by
  rintro ⟨hi, pg, hm, hs⟩
  rw [hk.inj hm (h.lie i hi)] at hs
  exact hs (sealPage_sum hv.lo (chunk_len _ _ _))
theorem DiskAt.range {g : Nat → Nat} {w : World} {r : Nat} {D : Dk} (h : DiskAt g w r D) {n : Int} {pg : List UInt8} (hm : (n, pg) ∈ D.pages) : 0 ≤ n ∧ n < 16384 := by
  obtain ⟨_, _, _, _, _, _, ents, free, fl, high, _, _, h⟩ := h
  have h1 : n ∈ keysOf ents := by
    have := h.pg
    rw [this] at hm
    obtain ⟨t', h1, h2⟩ := mem_keysPages hm
    have h3 : t'.1 ∈ keysOf ents := by unfold keysOf; exact List.mem_map_of_mem (f := fun t => t.1) h1
    rw [h2] at h3; exact h3
  have h2 := h.range n (List.mem_append_left _ h1)
  have h3 := h.high
  have h4 := h.most
  omega
theorem Laid.range {g : Nat → Nat} {w : World} {r : Nat} {D : Dk} {pages : List Int} {S : List UInt8} (h : Laid D pages S) (hd : DiskAt g w r D) : ∀ n ∈ pages, 0 ≤ n ∧ n < 16384 := by
  intro n hn
  obtain ⟨i, hi, rfl⟩ := List.getElem_of_mem hn
  exact hd.range (h.lie i hi)

section
variable {F : List Nat} {g : Nat → Nat} {w : World} {ls ms : List (List UInt8)} {ad bd : Option Addr}
def lenSum (ls : List (List UInt8)) : Nat := (ls.map List.length).sum
theorem lenSum_succ {i : Nat} (h : i < ls.length) : lenSum (ls.take (i + 1)) = lenSum (ls.take i) + ls[i].length := by
  unfold lenSum
  rw [List.take_succ_eq_append_getElem h, List.map_append, List.sum_append]
  simp

theorem lenSum_le {B : Nat} (hl : ∀ l ∈ ls, l.length ≤ B) : ∀ j, j ≤ ls.length → lenSum (ls.take j) ≤ j * B
  | 0, _ => by simp [lenSum]
  | j + 1, h => by
    rw [lenSum_succ (by omega)]
    have h1 := lenSum_le hl j (by omega)
    have h2 := hl _ (List.getElem_mem (l := ls) (n := j) (by omega))
    rw [Nat.add_mul, Nat.one_mul]; omega

/-- What Few has counted: right while there are few. -/
def FewAt (ls : List (List UInt8)) (j : Nat) (m : Int) : Prop := -9223372036854775808 ≤ m ∧ m ≤ 9223372036854775807 ∧ (j ≤ 100 → m = lenSum (ls.take j))
theorem FewAt.next {j : Nat} {m : Int} (h : FewAt ls j m) (hl : ∀ l ∈ ls, l.length ≤ 140737488351232) (hj : j < ls.length) : FewAt ls (j + 1) (IntKind.i64.wrap (m + (ls[j].length : Int))) := by
  have hw : IntKind.i64.wrap (m + (ls[j].length : Int)) = wrap64 (m + (ls[j].length : Int)) := by rw [IntKind.wrap_i64]; unfold wrap64; rfl
  rw [hw]
  refine ⟨by unfold wrap64; omega, by unfold wrap64; omega, fun h100 => ?_⟩
  have h1 := h.2.2 (by omega)
  have h2 := lenSum_le hl j (by omega)
  have h3 := hl _ (List.getElem_mem (l := ls) (n := j) hj)
  have h4 : j * 140737488351232 ≤ 100 * 140737488351232 := Nat.mul_le_mul_right _ (by omega)
  rw [lenSum_succ hj, wrap_id (by omega) (by omega), h1]; simp

set_option maxRecDepth 100000 in
set_option maxHeartbeats 1000000 in
theorem law_few (c : Nat) (hb : BR F g w ad ls) (hn : ls.length ≤ 140737488351232) (hl : ∀ l ∈ ls, l.length ≤ 140737488351232) :
    Calls Try.prog 10 #[.slice ad ls.length c] w fun e w' => e = .returned (.bool (decide (ls.length ≤ 100 ∧ lenSum ls ≤ 10000))) ∧ w = w' := by
  have hbH := Lib.hid hb
  clear hb
  go_enter Try.func10, Try.ntmps10
  go_wp2_with fail
  go_loopw [3, 4] (fun n i wr => ∃ (j : Nat) (m : Int), i = .int .i64 j ∧ j ≤ ls.length ∧ n = .int .i64 m ∧ FewAt ls j m ∧ wr = w) (fun _ i _ => ls.length - (intOf i).toNat)
  case atStart => exact ⟨0, 0, rfl, by omega, rfl, ⟨by omega, by omega, fun _ => rfl⟩, rfl⟩
  case round =>
    obtain ⟨j, m, rfl, hj, rfl, hm, rfl⟩ := hrel
    have hmH := Lib.hid hm
    clear hm
    by_cases hjl : j < ls.length
    · have hjl1 : (j : Int) < (ls.length : Int) := by omega
      obtain ⟨b, o, a, ci, hae, hcell, hby, hap⟩ := hbH.out.row j hjl
      subst hae
      have hnx := hmH.out.next hl hjl
      have hl2 := hl _ (List.getElem_mem (l := ls) (n := j) hjl)
      obtain ⟨q, hq⟩ : ∃ q, q = ls[j].length := ⟨_, rfl⟩
      rw [← hq] at hcell hnx hl2
      obtain ⟨m2, hm2⟩ : ∃ m2, m2 = IntKind.i64.wrap (m + (q : Int)) := ⟨_, rfl⟩
      rw [← hm2] at hnx
      have hwrap : IntKind.i64.wrap ((j : Int) + 1) = (j : Int) + 1 := IntWalk.i64_in _ (by omega)
      have hwrap2 : IntKind.i64.wrap (m + (q : Int)) = m2 := hm2.symm
      have hwrap3 : wrap64 (m + (q : Int)) = m2 := by rw [← hwrap2, IntKind.wrap_i64]; unfold wrap64; rfl
      have hnxH := Lib.hid hnx
      clear hnx hm2 hq hby hap
      go_wp2_with fail
      exact ⟨⟨j + 1, m2, by simp, hjl, rfl, hnxH.out, by simp⟩, by simp only [intOf]; omega⟩
    · have hjl1 : ¬ (j : Int) < (ls.length : Int) := by omega
      have hje : ls.take j = ls := List.take_of_length_le (by omega)
      have hjq : j = ls.length := by omega
      have hm3 := hmH.out.2.2
      rw [hje, hjq] at hm3
      have hmH3 := Lib.hid hm3
      clear hm3 hje hjq
      by_cases h1 : ls.length ≤ 100
      · have h1' : (ls.length : Int) ≤ 100 := by omega
        by_cases h2 : m ≤ 10000
        · have h2' : decide (m ≤ 10000) = true := by simp [h2]
          go_wp2_with fail
          go_ret
          have := hmH3.out h1
          have h3 : lenSum ls ≤ 10000 := by omega
          simp [h1, h3]
        · have h2' : decide (m ≤ 10000) = false := by simp [h2]
          go_wp2_with fail
          go_ret
          have := hmH3.out h1
          have h3 : ¬ lenSum ls ≤ 10000 := by omega
          simp [h1, h3]
      · have h1' : ¬ (ls.length : Int) ≤ 100 := by omega
        go_wp2_with fail
        go_ret
        simp [h1]
end
end Go.Proofs.Ytlppoimdfclbaaa
