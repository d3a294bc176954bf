/- TapeFaults: the walk. -/
import Derived.Test.YtlppoimdfclbaaaLawPlan
set_option linter.unusedVariables false
set_option linter.unusedSimpArgs false
namespace Go.Proofs.Ytlppoimdfclbaaa
open Go.RowKit

theorem Laid.planned {D : Dk} {pages : List Int} {S : List UInt8} (h : Laid D pages S) (b : Bool) : Laid { D with clean := b } pages S := ⟨h.nodup, h.hi, h.lo, h.lie⟩

section
variable {g : Nat → Nat} {w : World} {ls : List (List UInt8)} {fw fr : List (Int × Int)} {ad wd rd' : Option Addr}

set_option maxRecDepth 100000 in
set_option maxHeartbeats 1000000 in
theorem law_tape_faults (c cw cr : Nat) (hcap : ls.length ≤ c) (hg : GWf g w) (hb : BR [] g w ad ls) (hfw : FA g w wd fw) (hfr : FA g w rd' fr) (hn : ls.length ≤ 140737488351232) (hl : ∀ l ∈ ls, l.length ≤ 140737488351232) (hnw : fw.length ≤ 140737488351232) (hnr : fr.length ≤ 140737488351232) :
    Calls Try.prog 4 #[.slice ad ls.length c, .slice wd fw.length cw, .slice rd' fr.length cr] w fun e w' => e = .returned (.bool true) ∧ ∃ g', Step [] g g' w w' := by
  have hgH := Lib.hid hg
  have hbH := Lib.hid hb
  have hfwH := Lib.hid hfw
  have hfrH := Lib.hid hfr
  clear hg hb hfw hfr
  go_enter Try.func4, Try.ntmps4
  go_wp2_with fail
  refine (law_awake hgH.out).mono ?_
  rintro e w1 ⟨rfl, g1, hs1⟩
  have hb1H := Lib.hid (hbH.out.step hs1 (by simp))
  have hs1H := Lib.hid hs1
  clear hs1
  go_wp2_with fail
  refine (law_few c hb1H.out hn hl).mono ?_
  rintro e w' ⟨rfl, rfl⟩
  by_cases hfew : ls.length ≤ 100 ∧ lenSum ls ≤ 10000
  · have hfd : decide (ls.length ≤ 100 ∧ lenSum ls ≤ 10000) = true := by simp [hfew]
    rw [hfd]
    obtain ⟨hf1, hf2⟩ := hfew
    clear hfd
    by_cases hw20 : (20 : Int) < (fw.length : Int)
    · go_wp2_with fail
      go_ret
      exact ⟨rfl, g1, hs1H.out⟩
    · by_cases hr20 : (20 : Int) < (fr.length : Int)
      · go_wp2_with fail
        go_ret
        exact ⟨rfl, g1, hs1H.out⟩
      · have hw21 : fw.length ≤ 20 := by omega
        have hr21 : fr.length ≤ 20 := by omega
        go_wp2_with fail
        refine (disk_new 64 300 (.inl rfl) (by omega) (hs1H.out.wf hgH.out)).mono ?_
        rintro e w2 ⟨g2, rd, rfl, hrd, hd2, hs2⟩
        have hd2H := Lib.hid hd2
        have hs2H := Lib.hid (hs1H.out.tail hs2)
        have hrd0 : w.heap.size ≤ rd := Nat.le_trans hs1H.out.size hrd
        have hrlt := hd2.lt
        clear hd2 hs2
        go_wp2_with fail
        refine (ledger_new 1000 g2 w2 (hs2H.out.wf hgH.out)).mono ?_
        rintro e w3 ⟨rfl, hL3, hs3, hsz3⟩
        have hd3H := Lib.hid (hd2H.out.step hs3 (by simp))
        have hrl0 := hs2H.out.size
        have hL3H := Lib.hid hL3
        have hs3H := Lib.hid (hs2H.out.tail hs3)
        obtain ⟨rl, hrl⟩ : ∃ rl, rl = w2.heap.size := ⟨_, rfl⟩
        rw [← hrl] at hL3H hrl0 hrlt ⊢
        have hne : rd ≠ rl := by omega
        clear hL3 hs3 hrl hsz3
        have hin2 : ∀ x ∈ [rd, rl], x ∈ ([] : List Nat) ∨ w.heap.size ≤ x := fun x hx => by
          simp only [List.mem_cons, List.not_mem_nil, or_false] at hx
          rcases hx with rfl | rfl
          · exact .inr hrd0
          · exact .inr hrl0
        have hin1 : ∀ x ∈ [rd], x ∈ ([] : List Nat) ∨ w.heap.size ≤ x := fun x hx => by rw [List.mem_singleton.1 hx]; exact .inr hrd0
        have hin2H := Lib.hid hin2
        have hin1H := Lib.hid hin1
        have hslenH := Lib.hid (stream_len ls)
        have hlenH := Lib.hid (fun l (hm : l ∈ ls) => (by have := lenSum_mem hm; omega : l.length ≤ 1048640))
        have hSlen : (streamOf ls).length ≤ 1000000000 := by have := hslenH.out; omega
        clear hin2 hin1
        go_wp2_with fail
        refine (law_faults cw (hfwH.out.step hs3H.out) (by omega)).mono ?_
        rintro e w4 ⟨v4, rfl, hv4, hg4, hk4⟩
        have hs4 : Step [] g2 g2 w3 w4 := .grown hg4 (fun _ h => by cases h)
        have hd4H := Lib.hid (hd3H.out.step hs4 (by simp))
        have hL4H := Lib.hid (hL3H.out.step hs4 (by simp))
        have hs4H := Lib.hid (hs3H.out.tail hs4)
        have hv4H := Lib.hid hv4
        have hap4H := Lib.hid (show Apart [rd] g2 v4 from fun k hk => by
          have h1 := hk4 k hk
          have h2 := (hs3H.out.wf hgH.out).2 k h1
          have h3 := hd3H.out.lt
          rw [h2]; simp; omega)
        clear hs4 hv4 hk4 hg4
        go_wp2_with fail
        refine (disk_plan hd4H.out v4 hv4H.out (by omega) hap4H.out).mono ?_
        rintro e w5 ⟨rfl, g5, hd5, hs5⟩
        have hS5 := Step.transNew hgH.out hs4H.out hs5 hin1H.out
        have hd5H := Lib.hid hd5
        have hL5H := Lib.hid (hL4H.out.step hs5 (by simp; exact fun e => hne e.symm))
        have hs5H := Lib.hid hS5
        clear hd5 hs5 hS5
        go_wp2_with fail
        have hb5H := Lib.hid (((hbH.out.add hrl0).add hrd0).step hs5H.out (by simp))
        refine (law_make (ls := ls) c (hs5H.out.wf hgH.out) hd5H.out hL5H.out hne (by simp only; omega) hb5H.out (by omega) hlenH.out).mono ?_
        rintro e w6 ⟨g6, D6, L6, hout, hd6, hL6, hs6⟩
        have hS6 := Step.transNew hgH.out hs5H.out hs6 hin2H.out
        have hd6H := Lib.hid hd6
        have hL6H := Lib.hid hL6
        have hS6H := Lib.hid hS6
        have h6lt := hs6.size
        clear hd6 hL6 hs6 hS6
        cases hout with
        | bad r hr hds why =>
          have hnr : (r == 0) = false := by rw [beq_eq_false_iff_ne]; omega
          have hnr2 : r ≠ 0 := by omega
          have hlive : D6.pages.length = 0 := by have := hds.count; simp only [List.length_nil] at this; omega
          have hliveH := Lib.hid hlive
          clear hds why hlive
          go_wp2_with fail
          refine (disk_plan hd6H.out (.slice none 0 0) (fl := []) (World.ownsRow_nil _ _ _ _) (by simp) (fun _ h => by cases h)).mono ?_
          rintro e w7 ⟨rfl, g7, hd7, hs7⟩
          have hS7 := Step.transNew hgH.out hS6H.out hs7 hin1H.out
          obtain ⟨L7, hL7a, hL7b⟩ : ∃ L7 : Led, L7.held = 0 ∧ LedgerAt g7 w7 rl L7 := ⟨_, rfl, hL6H.out.step hs7 (by simp; exact fun e => hne e.symm)⟩
          have hL7H := Lib.hid hL7b
          have hL7aH := Lib.hid hL7a
          have hS7H := Lib.hid hS7
          have hd7H := Lib.hid hd7
          clear hL7a hL7b hS7 hs7 hd7
          rcases hr with rfl | rfl
          all_goals
            go_wp2_with fail
            refine (disk_live hd7H.out).mono ?_
            rintro e w' ⟨rfl, rfl⟩
            simp only [hliveH.out]
            go_wp2_with fail
            refine (ledger_held g7 w7 _ _ hL7H.out).mono ?_
            rintro e w' ⟨rfl, rfl⟩
            rw [hL7aH.out]
            go_wp2_with fail
            go_ret
            exact ⟨rfl, g7, hS7H.out⟩
        | ok t pages ht hlaid hds htp =>
          have hnin : w.heap.size ≤ t := by have := hs5H.out.size; omega
          have htrd : t ≠ rd := by have := hd5H.out.lt; omega
          have htrl : t ≠ rl := by have := hL5H.out.lt; omega
          have hpg6 : D6.page = 64 := hds.page
          have hcnt6 : D6.pages.length = pages.length := by have := hds.count; simp only [List.length_nil] at this; omega
          have hlaidH := Lib.hid hlaid
          have hpg6H := Lib.hid hpg6
          have hcnt6H := Lib.hid hcnt6
          have htpH := Lib.hid htp
          clear hlaid hds htp hpg6 hcnt6
          go_wp2_with fail
          refine (disk_plan hd6H.out (.slice none 0 0) (fl := []) (World.ownsRow_nil _ _ _ _) (by simp) (fun _ h => by cases h)).mono ?_
          rintro e w7 ⟨rfl, g7, hd7, hs7⟩
          have hS7 := Step.transNew hgH.out hS6H.out hs7 hin1H.out
          have ht7H := Lib.hid (htpH.out.step hs7 (by simp; exact htrd))
          have hL7H := Lib.hid (hL6H.out.step hs7 (by simp; exact fun e => hne e.symm))
          have hd7H := Lib.hid hd7
          have hS7H := Lib.hid hS7
          clear hd7 hs7 hS7
          go_wp2_with fail
          refine (law_faults cr (hfrH.out.step hS7H.out) (by omega)).mono ?_
          rintro e wf ⟨vf, rfl, hvf, hgf, hkf⟩
          have hsf : Step [] g7 g7 w7 wf := .grown hgf (fun _ h => by cases h)
          have hdfH := Lib.hid (hd7H.out.step hsf (by simp))
          have htfH := Lib.hid (ht7H.out.step hsf (by simp))
          have hLfH := Lib.hid (hL7H.out.step hsf (by simp))
          have hSfH := Lib.hid (hS7H.out.tail hsf)
          have hvfH := Lib.hid hvf
          have hapfH := Lib.hid (show Apart [rd] g7 vf from fun k hk => by
            have h1 := hkf k hk
            have h2 := (hS7H.out.wf hgH.out).2 k h1
            have h3 := hd7H.out.lt
            rw [h2]; simp; omega)
          clear hsf hvf hkf hgf
          go_wp2_with fail
          refine (disk_plan hdfH.out vf hvfH.out (by omega) hapfH.out).mono ?_
          rintro e wq ⟨rfl, gq, hdq, hsq⟩
          have hSq := Step.transNew hgH.out hSfH.out hsq hin1H.out
          have htqH := Lib.hid (htfH.out.step hsq (by simp; exact htrd))
          have hLqH := Lib.hid (hLfH.out.step hsq (by simp; exact fun e => hne e.symm))
          obtain ⟨cb, hcb⟩ : ∃ cb, cb = decide (fr = []) := ⟨_, rfl⟩
          have hdqb : DiskAt gq wq rd { D6 with clean := cb } := by rw [hcb]; exact hdq
          have hdqH := Lib.hid hdqb
          have hSqH := Lib.hid hSq
          clear hdq hdqb hsq hSq hcb
          go_wp2_with fail
          refine (law_read (ls := ls) (t := ⟨rd, pages, ls.length, false⟩) (hSqH.out.wf hgH.out) hdqH.out hLqH.out htqH.out ((hlaidH.out.planned cb).ok (hlaidH.out.range hd6H.out) hdqH.out.valid) rfl (by omega) hlenH.out hSlen hne htrd htrl (by have := hpg6H.out; simp only; omega)).mono ?_
          rintro e w8 ⟨g8, kk, xa, xc, r, rfl, hok, hx8, hd8, ht8, hL8, hs8⟩
          have hkl : kk ≤ ls.length := hok.1
          have hkc : kk ≤ c := by omega
          have hr : (r = 0 ∧ kk = ls.length) ∨ r = 16 ∨ r = 18 := by
            rcases hok.2.1 with h | ⟨h, _⟩ | ⟨h, _⟩
            · exact .inl h
            · exact .inr (.inl h)
            · exact .inr (.inr h)
          have hS8 := Step.transNew hgH.out hSqH.out hs8 hin2H.out
          have hx8b := hx8 [rd, rl] (fun x hx => by
            simp only [List.mem_cons, List.not_mem_nil, or_false] at hx
            have h1 := hdqH.out.lt
            have h2 := hLqH.out.lt
            rcases hx with rfl | rfl <;> omega)
          have hx8H := Lib.hid hx8b
          have hd8H := Lib.hid hd8
          have ht8H := Lib.hid ht8
          have hL8H := Lib.hid hL8
          have hS8H := Lib.hid hS8
          clear hok hx8 hx8b hd8 ht8 hL8 hs8 hS8
          go_wp2_with fail
          rcases hr with ⟨rfl, rfl⟩ | rfl | rfl
          · refine (disk_plan hd8H.out (.slice none 0 0) (fl := []) (World.ownsRow_nil _ _ _ _) (by simp) (fun _ h => by cases h)).mono ?_
            rintro e w9 ⟨rfl, g9, hd9, hs9⟩
            have hS9 := Step.transNew hgH.out hS8H.out hs9 hin1H.out
            have hx9H := Lib.hid (hx8H.out.step hs9 (by simp))
            have ht9H := Lib.hid (ht8H.out.step hs9 (by simp; exact htrd))
            have hL9H := Lib.hid (hL8H.out.step hs9 (by simp; exact fun e => hne e.symm))
            have hd9b : DiskAt g9 w9 rd { D6 with clean := true } := hd9
            have hd9H := Lib.hid hd9b
            have hS9H := Lib.hid hS9
            clear hd9 hd9b hs9 hS9
            go_wp2_with fail
            refine (law_read_good (ls := ls) (t := ⟨rd, pages, ls.length, false⟩) (hS9H.out.wf hgH.out) hd9H.out hL9H.out ht9H.out (hlaidH.out.planned true) rfl rfl (by omega) hlenH.out hSlen hne htrd htrl (by have := hpg6H.out; simp only; omega)).mono ?_
            rintro e w10 ⟨g10, ya, yc, rfl, hy10, hd10, ht10, hL10, hs10⟩
            have hS10 := Step.transNew hgH.out hS9H.out hs10 hin2H.out
            have hx10H := Lib.hid (hx9H.out.step hs10 (by simp))
            have hy10H := Lib.hid (hy10 [] (fun x hx => by cases hx))
            have hd10H := Lib.hid hd10
            have ht10H := Lib.hid ht10
            obtain ⟨L10, hL10a, hL10b⟩ : ∃ L10 : Led, L10.held = 0 ∧ LedgerAt g10 w10 rl L10 := ⟨_, rfl, hL10⟩
            have hL10H := Lib.hid hL10b
            have hL10aH := Lib.hid hL10a
            have hS10H := Lib.hid hS10
            have hb10H := Lib.hid (hbH.out.step hS10 (by simp))
            clear hy10 hd10 ht10 hL10 hL10a hL10b hs10 hS10
            go_wp2_with fail
            have hx0 := hx10H.out
            rw [List.take_length] at hx0
            refine (law_same_true xc c hx0 hb10H.out (by omega)).mono ?_
            clear hx0
            rintro e wz ⟨rfl, n0, rfl⟩
            go_wp2_with fail
            have hsame := law_same_true (ls := ls.take ls.length) xc c (hx10H.out.step (Step.drewN (T := []) w10 n0) (by simp)) ((hb10H.out.take ls.length).step (Step.drewN (T := []) w10 n0) (by simp)) (by rw [List.length_take]; omega)
            rw [List.length_take, Nat.min_eq_left hkl] at hsame
            refine hsame.mono ?_
            clear hsame
            rintro e w11 ⟨rfl, n11, rfl⟩
            go_wp2_with fail
            obtain ⟨W0, hW0⟩ : ∃ W0, W0 = w10.drewN (n0 + n11) := ⟨_, rfl⟩
            have hs11 : Step [] g10 g10 w10 W0 := by rw [hW0]; exact Step.drewN _ _
            rw [← hW0]
            refine (law_same_true yc c (hy10H.out.step hs11 (by simp)) (hb10H.out.step hs11 (by simp)) (by omega)).mono ?_
            rintro e w12 ⟨rfl, n12, rfl⟩
            obtain ⟨W, hW⟩ : ∃ W, W = W0.drewN n12 := ⟨_, rfl⟩
            rw [← hW]
            have hs12 : Step [] g10 g10 w10 W := by rw [hW]; exact hs11.tail (Step.drewN _ n12)
            have hd12H := Lib.hid (hd10H.out.step hs12 (by simp))
            have ht12H := Lib.hid (ht10H.out.step hs12 (by simp))
            have hL12H := Lib.hid (hL10H.out.step hs12 (by simp))
            have hS12H := Lib.hid (hS10H.out.tail hs12)
            clear hs11 hs12 hW hW0
            go_wp2_with fail
            refine (ledger_held g10 W _ _ hL12H.out).mono ?_
            rintro e w' ⟨rfl, rfl⟩
            rw [hL10aH.out]
            go_wp2_with fail
            refine (tape_drop (hS12H.out.wf hgH.out) hd12H.out ht12H.out rfl htrd hlaidH.out.nodup (fun n hn => by
              obtain ⟨i, hi, rfl⟩ := List.getElem_of_mem hn
              exact ⟨_, hlaidH.out.lie i hi⟩)).mono ?_
            rintro e w13 ⟨rfl, g13, D13, hd13, hds13, ht13, hs13⟩
            have hS13 : Step [] g g13 w w13 := Step.transNew hgH.out hS12H.out hs13 (fun x hx => by
              simp only [List.mem_cons, List.not_mem_nil, or_false] at hx
              rcases hx with rfl | rfl
              · exact .inr hrd0
              · exact .inr hnin)
            have hlive : D13.pages.length = 0 := by
              have h1 := hds13.count
              have h2 := hcnt6H.out
              simp at h1; omega
            have hd13H := Lib.hid hd13
            have hS13H := Lib.hid hS13
            have hliveH := Lib.hid hlive
            clear hd13 hds13 ht13 hs13 hS13 hlive
            go_wp2_with fail
            refine (disk_live hd13H.out).mono ?_
            rintro e w' ⟨rfl, rfl⟩
            rw [hliveH.out]
            go_wp2_with fail
            go_ret
            exact ⟨rfl, g13, hS13H.out⟩
          · refine (disk_plan hd8H.out (.slice none 0 0) (fl := []) (World.ownsRow_nil _ _ _ _) (by simp) (fun _ h => by cases h)).mono ?_
            rintro e w9 ⟨rfl, g9, hd9, hs9⟩
            have hS9 := Step.transNew hgH.out hS8H.out hs9 hin1H.out
            have hx9H := Lib.hid (hx8H.out.step hs9 (by simp))
            have ht9H := Lib.hid (ht8H.out.step hs9 (by simp; exact htrd))
            have hL9H := Lib.hid (hL8H.out.step hs9 (by simp; exact fun e => hne e.symm))
            have hd9b : DiskAt g9 w9 rd { D6 with clean := true } := hd9
            have hd9H := Lib.hid hd9b
            have hS9H := Lib.hid hS9
            clear hd9 hd9b hs9 hS9
            go_wp2_with fail
            refine (law_read_good (ls := ls) (t := ⟨rd, pages, ls.length, false⟩) (hS9H.out.wf hgH.out) hd9H.out hL9H.out ht9H.out (hlaidH.out.planned true) rfl rfl (by omega) hlenH.out hSlen hne htrd htrl (by have := hpg6H.out; simp only; omega)).mono ?_
            rintro e w10 ⟨g10, ya, yc, rfl, hy10, hd10, ht10, hL10, hs10⟩
            have hS10 := Step.transNew hgH.out hS9H.out hs10 hin2H.out
            have hx10H := Lib.hid (hx9H.out.step hs10 (by simp))
            have hy10H := Lib.hid (hy10 [] (fun x hx => by cases hx))
            have hd10H := Lib.hid hd10
            have ht10H := Lib.hid ht10
            obtain ⟨L10, hL10a, hL10b⟩ : ∃ L10 : Led, L10.held = 0 ∧ LedgerAt g10 w10 rl L10 := ⟨_, rfl, hL10⟩
            have hL10H := Lib.hid hL10b
            have hL10aH := Lib.hid hL10a
            have hS10H := Lib.hid hS10
            have hb10H := Lib.hid (hbH.out.step hS10 (by simp))
            clear hy10 hd10 ht10 hL10 hL10a hL10b hs10 hS10
            go_wp2_with fail
            have hn0 : ∃ n0 : Nat, n0 = 0 := ⟨0, rfl⟩
            obtain ⟨n0, hn0⟩ := hn0
            have hw0 : w10 = w10.drewN n0 := by rw [hn0]; rfl
            rw [hw0]
            clear hw0 hn0
            have hsame := law_same_true (ls := ls.take kk) xc c (hx10H.out.step (Step.drewN (T := []) w10 n0) (by simp)) ((hb10H.out.take kk).step (Step.drewN (T := []) w10 n0) (by simp)) (by rw [List.length_take]; omega)
            rw [List.length_take, Nat.min_eq_left hkl] at hsame
            refine hsame.mono ?_
            clear hsame
            rintro e w11 ⟨rfl, n11, rfl⟩
            go_wp2_with fail
            obtain ⟨W0, hW0⟩ : ∃ W0, W0 = w10.drewN (n0 + n11) := ⟨_, rfl⟩
            have hs11 : Step [] g10 g10 w10 W0 := by rw [hW0]; exact Step.drewN _ _
            rw [← hW0]
            refine (law_same_true yc c (hy10H.out.step hs11 (by simp)) (hb10H.out.step hs11 (by simp)) (by omega)).mono ?_
            rintro e w12 ⟨rfl, n12, rfl⟩
            obtain ⟨W, hW⟩ : ∃ W, W = W0.drewN n12 := ⟨_, rfl⟩
            rw [← hW]
            have hs12 : Step [] g10 g10 w10 W := by rw [hW]; exact hs11.tail (Step.drewN _ n12)
            have hd12H := Lib.hid (hd10H.out.step hs12 (by simp))
            have ht12H := Lib.hid (ht10H.out.step hs12 (by simp))
            have hL12H := Lib.hid (hL10H.out.step hs12 (by simp))
            have hS12H := Lib.hid (hS10H.out.tail hs12)
            clear hs11 hs12 hW hW0
            go_wp2_with fail
            refine (ledger_held g10 W _ _ hL12H.out).mono ?_
            rintro e w' ⟨rfl, rfl⟩
            rw [hL10aH.out]
            go_wp2_with fail
            refine (tape_drop (hS12H.out.wf hgH.out) hd12H.out ht12H.out rfl htrd hlaidH.out.nodup (fun n hn => by
              obtain ⟨i, hi, rfl⟩ := List.getElem_of_mem hn
              exact ⟨_, hlaidH.out.lie i hi⟩)).mono ?_
            rintro e w13 ⟨rfl, g13, D13, hd13, hds13, ht13, hs13⟩
            have hS13 : Step [] g g13 w w13 := Step.transNew hgH.out hS12H.out hs13 (fun x hx => by
              simp only [List.mem_cons, List.not_mem_nil, or_false] at hx
              rcases hx with rfl | rfl
              · exact .inr hrd0
              · exact .inr hnin)
            have hlive : D13.pages.length = 0 := by
              have h1 := hds13.count
              have h2 := hcnt6H.out
              simp at h1; omega
            have hd13H := Lib.hid hd13
            have hS13H := Lib.hid hS13
            have hliveH := Lib.hid hlive
            clear hd13 hds13 ht13 hs13 hS13 hlive
            go_wp2_with fail
            refine (disk_live hd13H.out).mono ?_
            rintro e w' ⟨rfl, rfl⟩
            rw [hliveH.out]
            go_wp2_with fail
            go_ret
            exact ⟨rfl, g13, hS13H.out⟩
          · refine (disk_plan hd8H.out (.slice none 0 0) (fl := []) (World.ownsRow_nil _ _ _ _) (by simp) (fun _ h => by cases h)).mono ?_
            rintro e w9 ⟨rfl, g9, hd9, hs9⟩
            have hS9 := Step.transNew hgH.out hS8H.out hs9 hin1H.out
            have hx9H := Lib.hid (hx8H.out.step hs9 (by simp))
            have ht9H := Lib.hid (ht8H.out.step hs9 (by simp; exact htrd))
            have hL9H := Lib.hid (hL8H.out.step hs9 (by simp; exact fun e => hne e.symm))
            have hd9b : DiskAt g9 w9 rd { D6 with clean := true } := hd9
            have hd9H := Lib.hid hd9b
            have hS9H := Lib.hid hS9
            clear hd9 hd9b hs9 hS9
            go_wp2_with fail
            refine (law_read_good (ls := ls) (t := ⟨rd, pages, ls.length, false⟩) (hS9H.out.wf hgH.out) hd9H.out hL9H.out ht9H.out (hlaidH.out.planned true) rfl rfl (by omega) hlenH.out hSlen hne htrd htrl (by have := hpg6H.out; simp only; omega)).mono ?_
            rintro e w10 ⟨g10, ya, yc, rfl, hy10, hd10, ht10, hL10, hs10⟩
            have hS10 := Step.transNew hgH.out hS9H.out hs10 hin2H.out
            have hx10H := Lib.hid (hx9H.out.step hs10 (by simp))
            have hy10H := Lib.hid (hy10 [] (fun x hx => by cases hx))
            have hd10H := Lib.hid hd10
            have ht10H := Lib.hid ht10
            obtain ⟨L10, hL10a, hL10b⟩ : ∃ L10 : Led, L10.held = 0 ∧ LedgerAt g10 w10 rl L10 := ⟨_, rfl, hL10⟩
            have hL10H := Lib.hid hL10b
            have hL10aH := Lib.hid hL10a
            have hS10H := Lib.hid hS10
            have hb10H := Lib.hid (hbH.out.step hS10 (by simp))
            clear hy10 hd10 ht10 hL10 hL10a hL10b hs10 hS10
            go_wp2_with fail
            have hn0 : ∃ n0 : Nat, n0 = 0 := ⟨0, rfl⟩
            obtain ⟨n0, hn0⟩ := hn0
            have hw0 : w10 = w10.drewN n0 := by rw [hn0]; rfl
            rw [hw0]
            clear hw0 hn0
            have hsame := law_same_true (ls := ls.take kk) xc c (hx10H.out.step (Step.drewN (T := []) w10 n0) (by simp)) ((hb10H.out.take kk).step (Step.drewN (T := []) w10 n0) (by simp)) (by rw [List.length_take]; omega)
            rw [List.length_take, Nat.min_eq_left hkl] at hsame
            refine hsame.mono ?_
            clear hsame
            rintro e w11 ⟨rfl, n11, rfl⟩
            go_wp2_with fail
            obtain ⟨W0, hW0⟩ : ∃ W0, W0 = w10.drewN (n0 + n11) := ⟨_, rfl⟩
            have hs11 : Step [] g10 g10 w10 W0 := by rw [hW0]; exact Step.drewN _ _
            rw [← hW0]
            refine (law_same_true yc c (hy10H.out.step hs11 (by simp)) (hb10H.out.step hs11 (by simp)) (by omega)).mono ?_
            rintro e w12 ⟨rfl, n12, rfl⟩
            obtain ⟨W, hW⟩ : ∃ W, W = W0.drewN n12 := ⟨_, rfl⟩
            rw [← hW]
            have hs12 : Step [] g10 g10 w10 W := by rw [hW]; exact hs11.tail (Step.drewN _ n12)
            have hd12H := Lib.hid (hd10H.out.step hs12 (by simp))
            have ht12H := Lib.hid (ht10H.out.step hs12 (by simp))
            have hL12H := Lib.hid (hL10H.out.step hs12 (by simp))
            have hS12H := Lib.hid (hS10H.out.tail hs12)
            clear hs11 hs12 hW hW0
            go_wp2_with fail
            refine (ledger_held g10 W _ _ hL12H.out).mono ?_
            rintro e w' ⟨rfl, rfl⟩
            rw [hL10aH.out]
            go_wp2_with fail
            refine (tape_drop (hS12H.out.wf hgH.out) hd12H.out ht12H.out rfl htrd hlaidH.out.nodup (fun n hn => by
              obtain ⟨i, hi, rfl⟩ := List.getElem_of_mem hn
              exact ⟨_, hlaidH.out.lie i hi⟩)).mono ?_
            rintro e w13 ⟨rfl, g13, D13, hd13, hds13, ht13, hs13⟩
            have hS13 : Step [] g g13 w w13 := Step.transNew hgH.out hS12H.out hs13 (fun x hx => by
              simp only [List.mem_cons, List.not_mem_nil, or_false] at hx
              rcases hx with rfl | rfl
              · exact .inr hrd0
              · exact .inr hnin)
            have hlive : D13.pages.length = 0 := by
              have h1 := hds13.count
              have h2 := hcnt6H.out
              simp at h1; omega
            have hd13H := Lib.hid hd13
            have hS13H := Lib.hid hS13
            have hliveH := Lib.hid hlive
            clear hd13 hds13 ht13 hs13 hS13 hlive
            go_wp2_with fail
            refine (disk_live hd13H.out).mono ?_
            rintro e w' ⟨rfl, rfl⟩
            rw [hliveH.out]
            go_wp2_with fail
            go_ret
            exact ⟨rfl, g13, hS13H.out⟩
  · have hfd : decide (ls.length ≤ 100 ∧ lenSum ls ≤ 10000) = false := by simp only [decide_eq_false_iff_not]; exact hfew
    rw [hfd]
    clear hfd hfew
    go_wp2_with fail
    go_ret
    exact ⟨rfl, g1, hs1H.out⟩
end
end Go.Proofs.Ytlppoimdfclbaaa
