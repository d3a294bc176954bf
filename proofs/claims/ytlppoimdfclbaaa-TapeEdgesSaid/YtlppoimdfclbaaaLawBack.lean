/- TapeBack: the walk. -/
import Derived.Test.YtlppoimdfclbaaaLawAdd
import Derived.Test.YtlppoimdfclbaaaLawNeed
set_option linter.unusedVariables false
set_option linter.unusedSimpArgs false
namespace Go.Proofs.Ytlppoimdfclbaaa
open Go.RowKit

section
variable {F F2 : List Nat} {g g2 : Nat → Nat} {w : World} {ls ms : List (List UInt8)} {ad bd : Option Addr}

/-- Records on a disk with room for all. -/
theorem law_make_good {rd rl c : Nat} {D : Dk} {L : Led} (hg : GWf g w) (hd : DiskAt g w rd D) (hL : LedgerAt g w rl L) (hdl : rd ≠ rl) (hroom : (D.page : Int) + L.held ≤ 1099511627776) (hb : BR [rd, rl] g w ad ls) (hn : ls.length ≤ 1000000) (hl : ∀ l ∈ ls, l.length ≤ 1048640)
    (hcl : D.clean = true) (hcap : ∀ k, k * room D < (streamOf ls).length → D.pages.length + k < D.most) :
    Calls Try.prog 27 #[.pointer (some ⟨rd, 0, none⟩), .pointer (some ⟨rl, 0, none⟩), .slice ad ls.length c] w fun e w' => ∃ g' D' t pages, e = .returned (.tuple #[.pointer (some ⟨t, 0, none⟩), .int .i64 0]) ∧ w.heap.size ≤ t ∧ Laid D' pages (streamOf ls) ∧ DStep D D' [] pages ∧ TpAt g' w' t ⟨rd, pages, ls.length, false⟩ ∧
      DiskAt g' w' rd D' ∧ LedgerAt g' w' rl ⟨L.budget, L.held, max L.high (L.held + D.page)⟩ ∧ Step [rd, rl] g g' w w' := by
  refine (law_make c hg hd hL hdl hroom hb hn hl).mono ?_
  rintro e w' ⟨g', D', L', hout, hd', hL', hs⟩
  cases hout with
  | ok t pages ht hl hds htp => exact ⟨g', D', t, pages, rfl, ht, hl, hds, htp, hd', hL', hs⟩
  | bad r hr hds why =>
    obtain ⟨k, h1, h2⟩ := why hcl
    have := hcap k h2
    omega

theorem size_of (pg : Nat) : ∃ size : Nat, wrap64 (64 * 2 ^ (pg % 4)) = (size : Int) ∧ ValidPage size ∧ size ≤ 512 := by
  have h : pg % 4 = 0 ∨ pg % 4 = 1 ∨ pg % 4 = 2 ∨ pg % 4 = 3 := by omega
  rcases h with h | h | h | h <;> rw [h]
  · exact ⟨64, by unfold wrap64; decide, .inl rfl, by omega⟩
  · exact ⟨128, by unfold wrap64; decide, .inr (.inl rfl), by omega⟩
  · exact ⟨256, by unfold wrap64; decide, .inr (.inr (.inl rfl)), by omega⟩
  · exact ⟨512, by unfold wrap64; decide, .inr (.inr (.inr (.inl rfl))), by omega⟩

set_option maxRecDepth 100000 in
set_option maxHeartbeats 8000000 in
theorem law_back (c pg : Nat) (hpg : pg < 256) (hg : GWf g w) (hb : BR [] g w ad ls) (hn : ls.length ≤ 140737488351232) (hl : ∀ l ∈ ls, l.length ≤ 140737488351232) :
    Calls Try.prog 7 #[.int .u8 pg, .slice ad ls.length c] w fun e w' => e = .returned (.bool true) ∧ ∃ g', Step [] g g' w w' := by
  have hgH := Lib.hid hg
  have hbH := Lib.hid hb
  clear hg hb
  go_enter Try.func7, Try.ntmps7
  go_wp2_with fail
  refine (law_awake hgH.out).mono ?_
  rintro e w1 ⟨rfl, g1, hs1⟩
  have hb1 := hbH.out.step hs1 (by simp)
  have hs1H := Lib.hid hs1
  have hb1H := Lib.hid hb1
  clear hs1 hb1
  go_wp2_with fail
  refine (law_few c hb1H.out hn hl).mono ?_
  rintro e w' ⟨rfl, rfl⟩
  by_cases hfew : ls.length ≤ 100 ∧ lenSum ls ≤ 10000
  · have hfd : decide (ls.length ≤ 100 ∧ lenSum ls ≤ 10000) = true := by simp [hfew]
    rw [hfd]
    obtain ⟨hf1, hf2⟩ := hfew
    clear hfd
    go_wp2_with fail
    obtain ⟨size, hsize, hval, hs512⟩ := size_of pg
    rw [hsize]
    have hs64 := hval.lo
    clear hsize
    refine (disk_new size 400 hval (by omega) (hs1H.out.wf hgH.out)).mono ?_
    rintro e w2 ⟨g2, rd, rfl, hrd, hd2, hs2⟩
    have hb2 := (hb1H.out.add hrd).step hs2 (by simp)
    have hd2H := Lib.hid hd2
    have hs2H := Lib.hid (hs1H.out.tail hs2)
    have hb2H := Lib.hid hb2
    have hrd0 : w.heap.size ≤ rd := Nat.le_trans hs1H.out.size hrd
    have hrlt := hd2.lt
    clear hd2 hs2 hb2
    go_wp2_with fail
    refine (ledger_new 100 g2 w2 (hs2H.out.wf hgH.out)).mono ?_
    rintro e w3 ⟨rfl, hL3, hs3, hsz3⟩
    have hb3 := (hb2H.out.add (Nat.le_refl w2.heap.size)).step hs3 (by simp)
    have hd3 := hd2H.out.step hs3 (by simp)
    have hrl0 := hs2H.out.size
    have hS3 := hs2H.out.tail hs3
    have hL3H := Lib.hid hL3
    have hd3H := Lib.hid hd3
    have hs3H := Lib.hid hS3
    have hb3H := Lib.hid (hb3.mono (F2 := [rd, w2.heap.size]) (by simp))
    obtain ⟨rl, hrl⟩ : ∃ rl, rl = w2.heap.size := ⟨_, rfl⟩
    rw [← hrl] at hL3H hb3H hrl0 hrlt ⊢
    clear hL3 hs3 hb3 hd3 hS3 hrl hsz3
    go_wp2_with fail
    have hslen := stream_len ls
    refine (law_make_good (c := c) (hs3H.out.wf hgH.out) hd3H.out hL3H.out (by omega) (by simp only; omega) hb3H.out (by omega) (fun l hm => by have := lenSum_mem hm; omega) rfl (fun k hk => ?_)).mono ?_
    · have hr : 54 ≤ room ⟨size, 400, [], true, 0⟩ := by unfold room; simp only; omega
      have := Nat.mul_le_mul_left k hr
      simp only [List.length_nil]; omega
    rintro e w4 ⟨g4, D4, t, pages, rfl, ht, hlaid, hds4, htp4, hd4, hL4, hs4⟩
    simp only at hL4
    have hin2 : ∀ r ∈ [rd, rl], r ∈ ([] : List Nat) ∨ w.heap.size ≤ r := fun r hr => by
      simp only [List.mem_cons, List.not_mem_nil, or_false] at hr
      rcases hr with rfl | rfl
      · exact .inr hrd0
      · exact .inr hrl0
    have hS4 := Step.transNew hgH.out hs3H.out hs4 hin2
    have hb4 := hbH.out.step hS4 (by simp)
    have hnin : w.heap.size ≤ t := by have := hs3H.out.size; omega
    have htrd : t ≠ rd := by have := hd3H.out.lt; omega
    have htrl : t ≠ rl := by have := hL3H.out.lt; omega
    have hin2H := Lib.hid hin2
    have hlaidH := Lib.hid hlaid
    have hds4H := Lib.hid hds4
    have htp4H := Lib.hid htp4
    have hd4H := Lib.hid hd4
    have hL4H := Lib.hid hL4
    have hS4H := Lib.hid hS4
    have hslenH := Lib.hid hslen
    have hlen : ∀ l ∈ ls, l.length ≤ 1048640 := fun l hm => by have := lenSum_mem hm; omega
    have hlenH := Lib.hid hlen
    have hSlen : (streamOf ls).length ≤ 1000000000 := by omega
    clear hin2 hlaid hds4 htp4 hd4 hL4 hs4 hS4 hb4 ht hslen hlen
    go_wp2_with fail
    refine (ledger_held g4 w4 _ _ hL4H.out).mono ?_
    rintro e w' ⟨rfl, rfl⟩
    go_wp2_with fail
    refine (law_read_good (ls := ls) (t := ⟨rd, pages, ls.length, false⟩) (hS4H.out.wf hgH.out) hd4H.out hL4H.out htp4H.out hlaidH.out hds4H.out.clean rfl (by omega) hlenH.out hSlen (by simp only; omega) htrd htrl (by rw [hds4H.out.page]; simp only; omega)).mono ?_
    rintro e w5 ⟨g5, xa, xc, rfl, hx5, hd5, ht5, hL5, hs5⟩
    have hS5 := Step.transNew hgH.out hS4H.out hs5 hin2H.out
    have hx5b := hx5 [rd, rl, t] (fun r hr => by
      simp only [List.mem_cons, List.not_mem_nil, or_false] at hr
      have h1 := hd4H.out.lt
      have h2 := hL4H.out.lt
      have h3 := htp4H.out.lt
      rcases hr with rfl | rfl | rfl <;> omega)
    have hx5H := Lib.hid hx5b
    have hd5H := Lib.hid hd5
    have ht5H := Lib.hid ht5
    have hL5H := Lib.hid hL5
    have hS5H := Lib.hid hS5
    clear hx5 hx5b hd5 ht5 hL5 hs5 hS5
    go_wp2_with fail
    refine (law_read_good (ls := ls) (t := ⟨rd, pages, ls.length, false⟩) (hS5H.out.wf hgH.out) hd5H.out hL5H.out ht5H.out hlaidH.out hds4H.out.clean rfl (by omega) hlenH.out hSlen (by simp only; omega) htrd htrl (by rw [hds4H.out.page]; simp only; omega)).mono ?_
    rintro e w6 ⟨g6, ya, yc, rfl, hy6, hd6, ht6, hL6, hs6⟩
    have hS6 := Step.transNew hgH.out hS5H.out hs6 hin2H.out
    have hx6 := hx5H.out.step hs6 (by simp)
    have hy6b := hy6 [] (fun r hr => by cases hr)
    have hx6H := Lib.hid hx6
    have hy6H := Lib.hid hy6b
    have hd6H := Lib.hid hd6
    have ht6H := Lib.hid ht6
    have hL6H := Lib.hid hL6
    have hS6H := Lib.hid hS6
    clear hx6 hy6 hy6b hd6 ht6 hL6 hs6 hS6
    go_wp2_with fail
    refine (tape_pages ht6H.out).mono ?_
    rintro e w7 ⟨v7, rfl, hv7, hg7, _⟩
    obtain ⟨a7, c7, rfl⟩ := hv7.len
    have hs7 : Step [] g6 g6 w6 w7 := .grown hg7 (fun _ h => by cases h)
    have hx7H := Lib.hid (hx6H.out.step hs7 (by simp))
    have hy7H := Lib.hid (hy6H.out.step hs7 (by simp))
    have hd7H := Lib.hid (hd6H.out.step hs7 (by simp))
    have ht7H := Lib.hid (ht6H.out.step hs7 (by simp))
    have hL7H := Lib.hid (hL6H.out.step hs7 (by simp))
    have hS7H := Lib.hid (hS6H.out.tail hs7)
    clear hv7 hg7 hs7
    simp only
    go_wp2_with fail
    have hb7H := Lib.hid (hbH.out.step hS7H.out (by simp))
    refine (law_same_true xc c hx7H.out hb7H.out (by omega)).mono ?_
    rintro e w8 ⟨rfl, n8, rfl⟩
    go_wp2_with fail
    have hs8 : Step [] g6 g6 w7 (w7.drewN n8) := Step.drewN w7 n8
    refine (law_same_true yc c (hy7H.out.step hs8 (by simp)) (hb7H.out.step hs8 (by simp)) (by omega)).mono ?_
    rintro e w9 ⟨rfl, n9, rfl⟩
    obtain ⟨W, hW⟩ : ∃ W, W = (w7.drewN n8).drewN n9 := ⟨_, rfl⟩
    rw [← hW]
    have hs9 : Step [] g6 g6 w7 W := by rw [hW]; exact hs8.tail (Step.drewN _ n9)
    have hb9H := Lib.hid (hb7H.out.step hs9 (by simp))
    have hd9H := Lib.hid (hd7H.out.step hs9 (by simp))
    have ht9H := Lib.hid (ht7H.out.step hs9 (by simp))
    have hL9H := Lib.hid (hL7H.out.step hs9 (by simp))
    have hS9H := Lib.hid (hS7H.out.tail hs9)
    clear hs8 hs9 hW
    go_wp2_with fail
    refine (tape_count ht9H.out).mono ?_
    rintro e w' ⟨rfl, rfl⟩
    simp only
    go_wp2_with fail
    have hneed := hlaidH.out.need (by rw [hds4H.out.page]; exact hs64)
    rw [hds4H.out.page] at hneed
    simp only at hneed
    have hneedH := Lib.hid hneed
    clear hneed
    refine (law_need size c hb9H.out (by omega) (by omega) hs64 (by omega)).mono ?_
    rintro e w' ⟨rfl, rfl⟩
    rw [← hneedH.out]
    go_wp2_with fail
    refine (disk_live hd9H.out).mono ?_
    rintro e w' ⟨rfl, rfl⟩
    have hlive : D4.pages.length = pages.length := by have := hds4H.out.count; simp at this; omega
    rw [hlive]
    have hliveH := Lib.hid hlive
    clear hlive
    go_wp2_with fail
    obtain ⟨L9, hL9, hh9, hm9⟩ : ∃ L9, LedgerAt g6 W rl L9 ∧ L9.held = 0 ∧ L9.high ≤ (size : Int) := ⟨_, hL9H.out, rfl, by
      have hpg4 := hds4H.out.page
      simp only at hpg4 ⊢
      rw [hpg4]; omega⟩
    have hL9bH := Lib.hid hL9
    have hh9H := Lib.hid hh9
    clear hL9 hh9
    refine (ledger_held g6 W _ _ hL9bH.out).mono ?_
    rintro e w' ⟨rfl, rfl⟩
    rw [hh9H.out]
    go_wp2_with fail
    refine (ledger_most g6 W _ _ hL9bH.out).mono ?_
    rintro e w' ⟨rfl, rfl⟩
    go_wp2_with fail
    refine (tape_drop (hS9H.out.wf hgH.out) hd9H.out ht9H.out rfl htrd hlaidH.out.nodup (fun n hn => by
      obtain ⟨i, hi, rfl⟩ := List.getElem_of_mem hn
      exact ⟨_, hlaidH.out.lie i hi⟩)).mono ?_
    rintro e w10 ⟨rfl, g10, D10, hd10, hds10, ht10, hs10⟩
    have hcnt := hds10.count
    have hlive : D10.pages.length = 0 := by have := hliveH.out; simp at hcnt; omega
    have hS10 : Step [] g g10 w w10 := Step.transNew hgH.out hS9H.out hs10 (fun r hr => by
      simp only [List.mem_cons, List.not_mem_nil, or_false] at hr
      rcases hr with rfl | rfl
      · exact .inr hrd0
      · exact .inr hnin)
    have hd10H := Lib.hid hd10
    have ht10H := Lib.hid ht10
    have hS10H := Lib.hid hS10
    have hlive10H := Lib.hid hlive
    clear hd10 hds10 ht10 hs10 hcnt hS10 hlive
    go_wp2_with fail
    refine (tape_drop_again ht10H.out rfl).mono ?_
    rintro e w' ⟨rfl, rfl⟩
    go_wp2_with fail
    refine (disk_live hd10H.out).mono ?_
    rintro e w' ⟨rfl, rfl⟩
    rw [hlive10H.out]
    go_wp2_with fail
    go_ret
    exact ⟨rfl, g10, hS10H.out⟩
  · have hfd : decide (ls.length ≤ 100 ∧ lenSum ls ≤ 10000) = false := by simp only [decide_eq_false_iff_not]; exact hfew
    rw [hfd]
    clear hfd hfew
    go_wp2_with fail
    go_ret
    exact ⟨rfl, g1, hs1H.out⟩
end
end Go.Proofs.Ytlppoimdfclbaaa
