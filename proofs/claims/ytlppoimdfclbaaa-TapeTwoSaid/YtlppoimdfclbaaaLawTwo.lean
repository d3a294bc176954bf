/- TapeTwo: the walk. -/
import Derived.Test.YtlppoimdfclbaaaLawPair
import Derived.Test.YtlppoimdfclbaaaLawBack
set_option linter.unusedVariables false
set_option linter.unusedSimpArgs false
namespace Go.Proofs.Ytlppoimdfclbaaa
open Go.RowKit

section
variable {g : Nat → Nat} {w : World} {us vs : List (List UInt8)} {ad bd : Option Addr}

set_option maxRecDepth 100000 in
set_option maxHeartbeats 8000000 in
theorem law_two (c d st : Nat) (hst : st < 256) (hg : GWf g w) (ha : BR [] g w ad us) (hb : BR [] g w bd vs) (hn : us.length ≤ 140737488351232) (hl : ∀ l ∈ us, l.length ≤ 140737488351232) (hm : vs.length ≤ 140737488351232) (hlm : ∀ l ∈ vs, l.length ≤ 140737488351232) :
    Calls Try.prog 3 #[.slice ad us.length c, .slice bd vs.length d, .int .u8 st] w fun e w' => e = .returned (.bool true) ∧ ∃ g', Step [] g g' w w' := by
  have hgH := Lib.hid hg
  have haH := Lib.hid ha
  have hbH := Lib.hid hb
  clear hg ha hb
  go_enter Try.func3, Try.ntmps3
  go_wp2_with fail
  refine (law_awake hgH.out).mono ?_
  rintro e w1 ⟨rfl, g1, hs1⟩
  have ha1H := Lib.hid (haH.out.step hs1 (by simp))
  have hb1H := Lib.hid (hbH.out.step hs1 (by simp))
  have hs1H := Lib.hid hs1
  clear hs1
  go_wp2_with fail
  refine (law_few c ha1H.out hn hl).mono ?_
  rintro e w' ⟨rfl, rfl⟩
  by_cases hfew : us.length ≤ 100 ∧ lenSum us ≤ 10000
  · have hfd : decide (us.length ≤ 100 ∧ lenSum us ≤ 10000) = true := by simp [hfew]
    rw [hfd]
    have husH := Lib.hid (Small.mk hfew.1 hfew.2)
    have hun := hfew.1
    clear hfd hfew
    go_wp2_with fail
    refine (law_few d hb1H.out hm hlm).mono ?_
    rintro e w' ⟨rfl, rfl⟩
    by_cases hfew : vs.length ≤ 100 ∧ lenSum vs ≤ 10000
    · have hfd : decide (vs.length ≤ 100 ∧ lenSum vs ≤ 10000) = true := by simp [hfew]
      rw [hfd]
      have hvsH := Lib.hid (Small.mk hfew.1 hfew.2)
      have hvn := hfew.1
      clear hfd hfew
      go_wp2_with fail
      refine (disk_new 64 500 (.inl rfl) (by omega) (hs1H.out.wf hgH.out)).mono ?_
      rintro e w2 ⟨g2, rd, rfl, hrd, hd2, hs2⟩
      have hd2H := Lib.hid hd2
      have hs2H := Lib.hid (hs1H.out.tail hs2)
      have hrd0 : w.heap.size ≤ rd := Nat.le_trans hs1H.out.size hrd
      have hrlt := hd2.lt
      clear hd2 hs2
      go_wp2_with fail
      refine (ledger_new 1000 g2 w2 (hs2H.out.wf hgH.out)).mono ?_
      rintro e w3 ⟨rfl, hL3, hs3, hsz3⟩
      have hrl0 := hs2H.out.size
      have hd3H := Lib.hid (hd2H.out.step hs3 (by simp))
      have hL3H := Lib.hid hL3
      have hs3H := Lib.hid (hs2H.out.tail hs3)
      obtain ⟨rl, hrl⟩ : ∃ rl, rl = w2.heap.size := ⟨_, rfl⟩
      rw [← hrl] at hL3H hrl0 hrlt ⊢
      have hrlt3 : rl < w3.heap.size := hL3H.out.lt
      clear hL3 hs3 hrl hsz3
      go_wp2_with fail
      refine (tape_create (hs3H.out.wf hgH.out) hd3H.out hL3H.out (by omega) (by simp only; omega)).mono ?_
      rintro e w4 ⟨p, g4, rfl, hp, hw4, hd4, hL4, hs4⟩
      simp only at hL4
      have hS4 : Step [] g g4 w w4 := Step.transNew hgH.out hs3H.out hs4 (fun r hr => by rw [List.mem_singleton.1 hr]; exact .inr hrl0)
      have hplt := hw4.lt
      have hw4H := Lib.hid hw4
      have hd4H := Lib.hid hd4
      have hL4H := Lib.hid hL4
      have hS4H := Lib.hid hS4
      have hsz34 := hs4.size
      clear hw4 hd4 hL4 hs4 hS4
      go_wp2_with fail
      refine (tape_create (hS4H.out.wf hgH.out) hd4H.out hL4H.out (by omega) (by simp only; omega)).mono ?_
      rintro e w5 ⟨q, g5, rfl, hq, hw5, hd5, hL5, hs5⟩
      simp only at hL5
      have hS5 : Step [] g g5 w w5 := Step.transNew hgH.out hS4H.out hs5 (fun r hr => by rw [List.mem_singleton.1 hr]; exact .inr hrl0)
      have hp0 : w.heap.size ≤ p := Nat.le_trans hs3H.out.size hp
      have hq0 : w.heap.size ≤ q := Nat.le_trans hS4H.out.size hq
      have hin : ∀ L : Led, L.held = 128 → LedgerAt g5 w5 rl L → TwoIn g w rd rl us vs p q w5 g5 ⟨64, 500, [], true, 0⟩ L ⟨rd, rl, [], 0, [], false⟩ ⟨rd, rl, [], 0, [], false⟩ 0 0 := fun L hL hLat =>
        { v := ⟨hw4H.out.step hs5 (by simp; omega), rfl, rfl, rfl, ⟨⟨List.nodup_nil, fun n hn => (by cases hn), fun _ => rfl, by simp [streamOf], by simp [streamOf], by simp [streamOf], fun i hi => by simp at hi⟩, fun h => absurd rfl h⟩⟩
          u := ⟨hw5, rfl, rfl, rfl, ⟨⟨List.nodup_nil, fun n hn => (by cases hn), fun _ => rfl, by simp [streamOf], by simp [streamOf], by simp [streamOf], fun i hi => by simp at hi⟩, fun h => absurd rfl h⟩⟩
          vc := rfl
          uc := rfl
          apart := fun n hn => by cases hn
          disk := hd5
          led := hLat
          held := hL
          many := rfl
          page := rfl
          most := rfl
          clean := rfl
          ne := ⟨by omega, by have := hd3H.out.lt; omega, by omega, by have := hd3H.out.lt; omega, by omega, by omega⟩
          new := ⟨hrd0, hrl0, hp0, hq0⟩
          step := hS5 }
      obtain ⟨L5, hL5a, hL5b⟩ : ∃ L5 : Led, L5.held = 128 ∧ LedgerAt g5 w5 rl L5 := ⟨_, rfl, hL5⟩
      have hin5 := hin L5 hL5a hL5b
      have hin5H := Lib.hid hin5
      have hL5aH := Lib.hid hL5a
      clear hw5 hd5 hL5 hs5 hS5 hin hin5 hL5a hL5b
      go_wp2_with fail
      refine (ledger_held g5 w5 _ _ hin5H.out.led).mono ?_
      rintro e w' ⟨rfl, rfl⟩
      rw [hL5aH.out]
      go_wp2_with fail
      go_loopw [12] (fun i wr => ∃ (j : Nat) (g' : Nat → Nat) (D : Dk) (L : Led) (V W : Wr), i = .int .i64 j ∧ j ≤ max us.length vs.length ∧ TwoIn g w rd rl us vs p q wr g' D L V W (min j us.length) (min j vs.length)) (fun i _ => max us.length vs.length - (intOf i).toNat)
      case atStart => exact ⟨0, g5, _, L5, _, _, rfl, by omega, by rw [Nat.zero_min, Nat.zero_min]; exact hin5H.out⟩
      case round =>
        obtain ⟨j, g6, D6, L6, V6, W6, rfl, hj, hin6⟩ := hrel
        obtain ⟨M, hM⟩ : ∃ M, M = max us.length vs.length := ⟨_, rfl⟩
        have hMi : (if us.length < vs.length then (vs.length : Int) else (us.length : Int)) = (M : Int) := by split <;> omega
        have hMH := Lib.hid hM
        clear hM
        by_cases hjm : j < max us.length vs.length
        · have hjm1 : (j : Int) < (M : Int) := by have := hMH.out; omega
          have hwrap : IntKind.i64.wrap ((j : Int) + 1) = (j : Int) + 1 := IntWalk.i64_in _ (by omega)
          by_cases hju : j < us.length
          · have hju1 : (j : Int) < (us.length : Int) := by omega
            rw [Nat.min_eq_left (by omega : j ≤ us.length)] at hin6
            obtain ⟨b, o, a, ci, hae, hcell, hadd⟩ := hin6.add hgH.out haH.out husH.out hvsH.out hju
            subst hae
            obtain ⟨k, hk⟩ : ∃ k, k = us[j].length := ⟨_, rfl⟩
            rw [← hk] at hcell hadd
            have haddH := Lib.hid hadd
            clear hin6 hadd hk
            go_wp2_with fail
            refine haddH.out.mono ?_
            rintro e w7 ⟨rfl, g7, D7, L7, V7, hin7⟩
            clear haddH hcell
            by_cases hjv : j < vs.length
            · have hjv1 : (j : Int) < (vs.length : Int) := by omega
              rw [Nat.min_eq_left (by omega : j ≤ vs.length)] at hin7
              obtain ⟨b2, o2, a2, ci2, hae2, hcell2, hadd2⟩ := hin7.swap.add hgH.out hbH.out hvsH.out husH.out hjv
              subst hae2
              obtain ⟨k, hk⟩ : ∃ k, k = vs[j].length := ⟨_, rfl⟩
              rw [← hk] at hcell2 hadd2
              have haddH := Lib.hid hadd2
              clear hin7 hadd2 hk
              go_wp2_with fail
              refine haddH.out.mono ?_
              rintro e w8 ⟨rfl, g8, D8, L8, W8, hin8⟩
              have hin8H := Lib.hid hin8
              clear haddH hcell2 hin8
              go_wp2_with fail
              exact ⟨⟨j + 1, g8, D8, L8, V7, W8, by simp, by omega, by rw [Nat.min_eq_left (by omega : j + 1 ≤ us.length), Nat.min_eq_left (by omega : j + 1 ≤ vs.length)]; exact hin8H.out.swap⟩, by simp only [intOf]; omega⟩
            · have hjv1 : ¬ (j : Int) < (vs.length : Int) := by omega
              have hjv2 : decide ((j : Int) < (vs.length : Int)) = false := by simp only [decide_eq_false_iff_not]; exact hjv1
              rw [Nat.min_eq_right (by omega : vs.length ≤ j)] at hin7
              have hin7H := Lib.hid hin7
              clear hin7
              go_wp2_with fail
              exact ⟨⟨j + 1, g7, D7, L7, V7, W6, by simp, by omega, by rw [Nat.min_eq_left (by omega : j + 1 ≤ us.length), Nat.min_eq_right (by omega : vs.length ≤ j + 1)]; exact hin7H.out⟩, by simp only [intOf]; omega⟩
          · have hju1 : ¬ (j : Int) < (us.length : Int) := by omega
            have hjv : j < vs.length := by omega
            have hjv1 : (j : Int) < (vs.length : Int) := by omega
            rw [Nat.min_eq_right (by omega : us.length ≤ j), Nat.min_eq_left (by omega : j ≤ vs.length)] at hin6
            obtain ⟨b2, o2, a2, ci2, hae2, hcell2, hadd2⟩ := hin6.swap.add hgH.out hbH.out hvsH.out husH.out hjv
            subst hae2
            obtain ⟨k, hk⟩ : ∃ k, k = vs[j].length := ⟨_, rfl⟩
            rw [← hk] at hcell2 hadd2
            have haddH := Lib.hid hadd2
            clear hin6 hadd2 hk
            go_wp2_with fail
            refine haddH.out.mono ?_
            rintro e w8 ⟨rfl, g8, D8, L8, W8, hin8⟩
            have hin8H := Lib.hid hin8
            clear haddH hcell2 hin8
            go_wp2_with fail
            exact ⟨⟨j + 1, g8, D8, L8, V6, W8, by simp, by omega, by rw [Nat.min_eq_right (by omega : us.length ≤ j + 1), Nat.min_eq_left (by omega : j + 1 ≤ vs.length)]; exact hin8H.out.swap⟩, by simp only [intOf]; omega⟩
        · have hjm1 : ¬ (j : Int) < (M : Int) := by have := hMH.out; omega
          rw [Nat.min_eq_right (by omega : us.length ≤ j), Nat.min_eq_right (by omega : vs.length ≤ j)] at hin6
          have hin6H := Lib.hid hin6
          clear hin6
          go_wp2_with fail
          refine (TwoIn.close hgH.out hin6H.out).mono ?_
          rintro e w7 ⟨t, g7, D7, rfl, ht, hlaid7, hds7, htp7, hd7, hL7, hu7, hS7⟩
          rw [List.take_length] at hu7
          have hne := hin6H.out.ne
          have hqlt := hin6H.out.u.wrt.lt
          have hrdlt := hin6H.out.disk.lt
          have hrllt := hin6H.out.led.lt
          have htq : t ≠ q := by omega
          have htrd : t ≠ rd := by omega
          have htrl : t ≠ rl := by omega
          have huc := hin6H.out.uc
          have hpg7 := hds7.page.trans hin6H.out.page
          have hcl7 := hds7.clean.trans hin6H.out.clean
          have hL7b : LedgerAt g7 w7 rl ⟨L6.budget, 64, L6.high⟩ := by
            have h := hL7
            rw [hin6H.out.held] at h
            exact h
          have hS7H := Lib.hid hS7
          have hu7H := Lib.hid hu7
          have hucH := Lib.hid huc
          have hd7H := Lib.hid hd7
          have hL7H := Lib.hid hL7b
          have hpg7H := Lib.hid hpg7
          have hcl7H := Lib.hid hcl7
          have hneH := Lib.hid hne
          have hlaid7H := Lib.hid hlaid7
          have hds7H := Lib.hid hds7
          have htp7H := Lib.hid htp7
          have htlt7 := htp7.lt
          clear hne huc hpg7 hcl7 hL7 hL7b hS7 hu7 hd7 hlaid7 hds7 htp7
          go_wp2_with fail
          refine (WIn.close (hS7H.out.wf hgH.out) hu7H.out hucH.out hd7H.out hL7H.out hneH.out.2.2.2.1 hneH.out.2.2.2.2.1 hneH.out.2.2.2.2.2 hcl7H.out (by rw [hpg7H.out]; simp only; omega)).mono ?_
          rintro e w8 ⟨t2, g8, D8, rfl, ht2, hlaid8, hds8, htp8, hd8, hL8, hs8⟩
          have hS8 : Step [] g g8 w w8 := Step.transNew hgH.out hS7H.out hs8 (fun r hr => by
            simp only [List.mem_cons, List.not_mem_nil, or_false] at hr
            rcases hr with rfl | rfl | rfl
            · exact .inr hrd0
            · exact .inr hrl0
            · exact .inr hq0)
          have hap := hin6H.out.apart
          have hlaid1 : Laid D8 V6.pages (streamOf us) := hlaid7H.out.keep hds8 hap
          have htp1 : TpAt g8 w8 t ⟨rd, V6.pages, us.length, false⟩ := htp7H.out.step hs8 (by simp; exact ⟨htrd, htrl, htq⟩)
          have hL8b : LedgerAt g8 w8 rl ⟨L6.budget, 0, L6.high⟩ := by
            have h := hL8
            rw [hpg7H.out] at h
            exact h
          have hpg8 := hds8.page.trans hpg7H.out
          have hcl8 := hds8.clean.trans hcl7H.out
          have hcnt8 : D8.pages.length = V6.pages.length + W6.pages.length := by
            have h1 := hds7H.out.count
            have h2 := hds8.count
            have h3 := hin6H.out.many
            omega
          have ht2t : t2 ≠ t := by omega
          have ht2rd : t2 ≠ rd := by have := hd7H.out.lt; omega
          have ht2rl : t2 ≠ rl := by have := hL7H.out.lt; omega
          have ht2lt := htp8.lt
          have hS8H := Lib.hid hS8
          have hapH := Lib.hid hap
          have hlaid1H := Lib.hid hlaid1
          have hlaid2H := Lib.hid hlaid8
          have htp1H := Lib.hid htp1
          have htp2H := Lib.hid htp8
          have hd8H := Lib.hid hd8
          have hL8H := Lib.hid hL8b
          have hpg8H := Lib.hid hpg8
          have hcl8H := Lib.hid hcl8
          have hcnt8H := Lib.hid hcnt8
          have ht0 : w.heap.size ≤ t := by have := hS7H.out.size; have := hin6H.out.step.size; omega
          have ht20 : w.heap.size ≤ t2 := by have := hS7H.out.size; omega
          clear hap hlaid1 hlaid8 htp1 htp8 hd8 hL8 hL8b hpg8 hcl8 hcnt8 hS8 hs8 hds8
          go_wp2_with fail
          refine (tape_open (hS8H.out.wf hgH.out) hd8H.out hL8H.out htp1H.out htrl hneH.out.2.2.2.2.2 (by rw [hpg8H.out]; simp only; omega)).mono ?_
          rintro e w9 ⟨r, rfl, hr, hrd9, hL9, hs9⟩
          have hS9 : Step [] g g8 w w9 := Step.transNew hgH.out hS8H.out hs9 (fun r hr => by rw [List.mem_singleton.1 hr]; exact .inr hrl0)
          have hdl := hneH.out.2.2.2.2.2
          have hrlt9 : r < w9.heap.size := by obtain ⟨_, h⟩ := hrd9; exact lt_of_block h.blk
          have hin9 : RIn g8 w9 r t rl ⟨rd, V6.pages, us.length, false⟩ D8 us ⟨t, rl, 0, [], us.length, false, false⟩ 0 :=
            ⟨⟨htp1H.out.step hs9 (by simp; exact htrl), hrd9, hd8H.out.step hs9 (by simp; exact hdl), ⟨by simp [streamOf], by simp [streamOf]⟩, Nat.zero_le _, fun i hi => by simp at hi⟩, rfl, rfl, by simp, rfl, rfl⟩
          have hL9b : LedgerAt g8 w9 rl ⟨L6.budget, 64, max L6.high 64⟩ := by
            have h := hL9
            rw [hpg8H.out] at h
            exact h
          have hdlH := Lib.hid hdl
          have hr0 : w.heap.size ≤ r := by have := hS8H.out.size; omega
          have hrrd : r ≠ rd := by have := hd8H.out.lt; omega
          have hrrl : r ≠ rl := by have := hL8H.out.lt; omega
          have hrt : r ≠ t := by have := htp1H.out.lt; omega
          have hrt2 : r ≠ t2 := by omega
          have hin9H := Lib.hid hin9
          have hL9H := Lib.hid hL9b
          have htp29H := Lib.hid (htp2H.out.step hs9 (by simp; exact ht2rl))
          have hS9H := Lib.hid hS9
          clear hdl hrd9 hL9 hL9b hs9 hin9 hS9
          go_wp2_with fail
          go_loopw [18] (fun i wr => ∃ (j : Nat) (g' : Nat → Nat) (R : Rd), i = .int .i64 j ∧ j ≤ us.length ∧ RIn g' wr r t rl ⟨rd, V6.pages, us.length, false⟩ D8 us R j ∧ LedgerAt g' wr rl ⟨L6.budget, 64, max L6.high 64⟩ ∧ TpAt g' wr t2 ⟨rd, W6.pages, vs.length, false⟩ ∧ Step [] g g' w wr) (fun i _ => us.length - (intOf i).toNat)
          case atStart => exact ⟨0, g8, _, rfl, by omega, hin9H.out, hL9H.out, htp29H.out, hS9H.out⟩
          case round =>
            obtain ⟨k, gk, R, rfl, hk, hrin, hLk, htk, hSk⟩ := hrel
            have hrinH := Lib.hid hrin
            have hLkH := Lib.hid hLk
            have htkH := Lib.hid htk
            have hSkH := Lib.hid hSk
            clear hrin hLk htk hSk
            by_cases hgo : (k : Int) < (st : Int) % 5 ∧ k < us.length
            · obtain ⟨hgo1, hgo2⟩ := hgo
              have hgo3 : (k : Int) < (us.length : Int) := by omega
              have hwrap : IntKind.i64.wrap ((k : Int) + 1) = (k : Int) + 1 := IntWalk.i64_in _ (by omega)
              obtain ⟨l, hle⟩ : ∃ l, l = us[k] := ⟨_, rfl⟩
              have hnext := hrinH.out.next (hSkH.out.wf hgH.out) hLkH.out hlaid1H.out hcl8H.out husH.out hrrd hrrl hrt htrd htrl hdlH.out (by rw [hpg8H.out]; simp only; omega) hgo2
              rw [← hle] at hnext
              have hnextH := Lib.hid hnext
              have hleH := Lib.hid hle
              clear hnext hle
              go_wp2_with fail
              refine hnextH.out.mono ?_
              rintro e wn ⟨gn, Rn, ra, rc, rfl, hrow, hrn, hLn, hsn⟩
              have hSn : Step [] g gn w wn := Step.transNew hgH.out hSkH.out hsn (fun x hx => by
                simp only [List.mem_cons, List.not_mem_nil, or_false] at hx
                rcases hx with rfl | rfl | rfl
                · exact .inr hrd0
                · exact .inr hrl0
                · exact .inr hr0)
              have htn : TpAt gn wn t2 ⟨rd, W6.pages, vs.length, false⟩ := htkH.out.step hsn (by simp; exact ⟨ht2rd, ht2rl, fun e => hrt2 e.symm⟩)
              obtain ⟨b, o, a, ci, hae, hcell, hby⟩ := (haH.out.step hSn (by simp)).get hgo2
              rw [← hleH.out] at hcell hby
              have hk1 := hrow.bytes.conv 9 rfl
              have hk2 := hby.conv 9 rfl
              have hk1d := (hrow.bytes.step (T := []) (g := gn) Step.drew (fun _ _ h => by cases h)).conv 9 rfl
              have hk2d := (hby.step (T := []) (g := gn) Step.drew (fun _ _ _ h => by cases h)).conv 9 rfl
              have hk1n := fun n => (hrow.bytes.step (T := []) (g := gn) (Step.drewN wn n) (fun _ _ h => by cases h)).conv 9 rfl
              have hk2n := fun n => (hby.step (T := []) (g := gn) (Step.drewN wn n) (fun _ _ _ h => by cases h)).conv 9 rfl
              subst hae
              have hrnH := Lib.hid hrn
              have hLnH := Lib.hid hLn
              have htnH := Lib.hid htn
              have hSnH := Lib.hid hSn
              clear hrow hrn hLn hsn hSn htn hby
              go_wp2_with fail
              go_quiet (fail)
              have hsd : Step [] gn gn wn (wn.drewN nq) := Step.drewN wn nq
              have hfin := (⟨⟨hrnH.out.st.step hsd (by simp) (by simp) (by simp), hrnH.out.fld⟩, hLnH.out.step hsd (by simp), htnH.out.step hsd (by simp), hSnH.out.tail hsd⟩ : RIn gn (wn.drewN nq) r t rl ⟨rd, V6.pages, us.length, false⟩ D8 us Rn (k + 1) ∧ LedgerAt gn (wn.drewN nq) rl ⟨L6.budget, 64, max L6.high 64⟩ ∧ TpAt gn (wn.drewN nq) t2 ⟨rd, W6.pages, vs.length, false⟩ ∧ Step [] g gn w (wn.drewN nq))
              have hfinH := Lib.hid hfin
              clear hsd hfin hk1 hk2 hk1d hk2d hk1n hk2n
              go_wp2_with fail
              exact ⟨⟨k + 1, gn, Rn, by simp, hgo2, hfinH.out⟩, by simp only [intOf]; omega⟩
            · have hcase : decide ((k : Int) < (st : Int) % 5) = false ∨ ((k : Int) < (st : Int) % 5 ∧ ¬ (k : Int) < (us.length : Int) ∧ decide (k < us.length) = false) := by
                by_cases h1 : (k : Int) < (st : Int) % 5
                · right
                  have h2 : ¬ k < us.length := fun h2 => hgo ⟨h1, h2⟩
                  exact ⟨h1, by omega, by simp only [decide_eq_false_iff_not]; exact h2⟩
                · left
                  simp only [decide_eq_false_iff_not]; exact h1
              clear hgo
              rcases hcase with hd1 | ⟨hd1, hd2, hd3⟩
              all_goals
                go_wp2_with fail
                have hR := hrinH.out.fld
                have hst := hrinH.out.st
                refine (rd_close (t := ⟨rd, V6.pages, us.length, false⟩) hst.disk (by rw [hR.2.1]; exact hLkH.out) hst.tp hst.rd hR.2.2.2.1 hrrd (by rw [hR.2.1]; exact hrrl) (by rw [hR.1]; exact hrt) (by rw [hR.1, hR.2.1]; exact htrl) (by rw [hR.2.1]; exact hdlH.out) (by rw [hpg8H.out]; simp only; omega)).mono ?_
                rintro e w10 ⟨rfl, hL10, hs10⟩
                rw [hR.2.1] at hL10 hs10
                rw [hpg8H.out] at hL10
                have hL10b : LedgerAt gk w10 rl ⟨L6.budget, 0, max L6.high 64⟩ := hL10
                have hS10 : Step [] g gk w w10 := Step.transNew hgH.out hSkH.out hs10 (fun x hx => by
                  simp only [List.mem_cons, List.not_mem_nil, or_false] at hx
                  rcases hx with rfl | rfl
                  · exact .inr hrl0
                  · exact .inr hr0)
                have hd10 := hst.disk.step hs10 (by simp; exact ⟨hdlH.out, fun e => hrrd e.symm⟩)
                have htp10 := hst.tp.step hs10 (by rw [hR.1]; simp; exact ⟨htrl, fun e => hrt e.symm⟩)
                rw [hR.1] at htp10
                have htq10 := htkH.out.step hs10 (by simp; exact ⟨ht2rl, fun e => hrt2 e.symm⟩)
                have hd10H := Lib.hid hd10
                have hL10H := Lib.hid hL10b
                have htp10H := Lib.hid htp10
                have htq10H := Lib.hid htq10
                have hS10H := Lib.hid hS10
                clear hR hst hL10 hL10b hs10 hS10 hd10 htp10 htq10
                go_wp2_with fail
                have hus := husH.out
                have hvs := hvsH.out
                have hu1 := hus.stream
                have hv1 := hvs.stream
                have hin2 : ∀ x ∈ [rd, rl], x ∈ ([] : List Nat) ∨ w.heap.size ≤ x := fun x hx => by
                  simp only [List.mem_cons, List.not_mem_nil, or_false] at hx
                  rcases hx with rfl | rfl
                  · exact .inr hrd0
                  · exact .inr hrl0
                have hin2H := Lib.hid hin2
                refine (law_read_good (ls := us) (t := ⟨rd, V6.pages, us.length, false⟩) (hS10H.out.wf hgH.out) hd10H.out hL10H.out htp10H.out hlaid1H.out hcl8H.out rfl (by omega) (fun l h => hus.len h) (by omega) hdlH.out htrd htrl (by rw [hpg8H.out]; simp only; omega)).mono ?_
                rintro e w11 ⟨g11, xa, xc, rfl, hx11, hd11, ht11, hL11, hs11⟩
                have hS11 := Step.transNew hgH.out hS10H.out hs11 hin2
                have hx11b := hx11 [rd, rl] (fun x hx => by
                  simp only [List.mem_cons, List.not_mem_nil, or_false] at hx
                  have h1 := hd10H.out.lt
                  have h2 := hL10H.out.lt
                  rcases hx with rfl | rfl <;> omega)
                have htq11 := htq10H.out.step hs11 (by simp; exact ⟨ht2rd, ht2rl⟩)
                have hx11H := Lib.hid hx11b
                have hd11H := Lib.hid hd11
                have ht11H := Lib.hid ht11
                have hL11H := Lib.hid hL11
                have hS11H := Lib.hid hS11
                have htq11H := Lib.hid htq11
                clear hx11 hx11b hd11 ht11 hL11 hs11 hS11 htq11 hin2 hus hvs
                go_wp2_with fail
                have hvs := hvsH.out
                refine (law_read_good (ls := vs) (t := ⟨rd, W6.pages, vs.length, false⟩) (hS11H.out.wf hgH.out) hd11H.out hL11H.out htq11H.out hlaid2H.out hcl8H.out rfl (by omega) (fun l h => hvs.len h) (by omega) hdlH.out ht2rd ht2rl (by rw [hpg8H.out]; simp only; omega)).mono ?_
                rintro e w12 ⟨g12, ya, yc, rfl, hy12, hd12, htq12, hL12, hs12⟩
                have hS12 := Step.transNew hgH.out hS11H.out hs12 hin2H.out
                have hx12 := hx11H.out.step hs12 (by simp)
                have hy12b := hy12 [] (fun r hr => by cases hr)
                have ht12 := ht11H.out.step hs12 (by simp; exact ⟨htrd, htrl⟩)
                have hx12H := Lib.hid hx12
                have hy12H := Lib.hid hy12b
                have hd12H := Lib.hid hd12
                have ht12H := Lib.hid ht12
                have htq12H := Lib.hid htq12
                obtain ⟨L12, hL12a, hL12b⟩ : ∃ L12 : Led, L12.held = 0 ∧ LedgerAt g12 w12 rl L12 := ⟨_, rfl, hL12⟩
                have hL12H := Lib.hid hL12b
                have hL12aH := Lib.hid hL12a
                have hS12H := Lib.hid hS12
                clear hx12 hy12 hy12b hd12 htq12 hL12 hL12a hL12b hs12 hS12 ht12 hvs
                go_wp2_with fail
                have ha12H := Lib.hid (haH.out.step hS12H.out (by simp))
                have hb12H := Lib.hid (hbH.out.step hS12H.out (by simp))
                refine (law_same_true xc c hx12H.out ha12H.out (by omega)).mono ?_
                rintro e w13 ⟨rfl, n13, rfl⟩
                go_wp2_with fail
                have hs13 : Step [] g12 g12 w12 (w12.drewN n13) := Step.drewN w12 n13
                refine (law_same_true yc d (hy12H.out.step hs13 (by simp)) (hb12H.out.step hs13 (by simp)) (by omega)).mono ?_
                rintro e w14 ⟨rfl, n14, rfl⟩
                obtain ⟨W, hW⟩ : ∃ W, W = (w12.drewN n13).drewN n14 := ⟨_, rfl⟩
                rw [← hW]
                have hs14 : Step [] g12 g12 w12 W := by rw [hW]; exact hs13.tail (Step.drewN _ n14)
                have hd14H := Lib.hid (hd12H.out.step hs14 (by simp))
                have ht14H := Lib.hid (ht12H.out.step hs14 (by simp))
                have htq14H := Lib.hid (htq12H.out.step hs14 (by simp))
                have hL14H := Lib.hid (hL12H.out.step hs14 (by simp))
                have hS14H := Lib.hid (hS12H.out.tail hs14)
                clear hs13 hs14 hW
                go_wp2_with fail
                refine (ledger_held g12 W _ _ hL14H.out).mono ?_
                rintro e w' ⟨rfl, rfl⟩
                rw [hL12aH.out]
                go_wp2_with fail
                refine (tape_drop (hS14H.out.wf hgH.out) hd14H.out ht14H.out rfl htrd hlaid1H.out.nodup (fun n hn => by
                  obtain ⟨i, hi, rfl⟩ := List.getElem_of_mem hn
                  exact ⟨_, hlaid1H.out.lie i hi⟩)).mono ?_
                rintro e w15 ⟨rfl, g15, D15, hd15, hds15, ht15, hs15⟩
                have hS15 : Step [] g g15 w w15 := Step.transNew hgH.out hS14H.out hs15 (fun x hx => by
                  simp only [List.mem_cons, List.not_mem_nil, or_false] at hx
                  rcases hx with rfl | rfl
                  · exact .inr hrd0
                  · exact .inr ht0)
                have htq15 := htq14H.out.step hs15 (by simp; exact ⟨ht2rd, ht2t⟩)
                have hlive : D15.pages.length = W6.pages.length := by
                  have h1 := hds15.count
                  have h2 := hcnt8H.out
                  simp at h1; omega
                have hd15H := Lib.hid hd15
                have htq15H := Lib.hid htq15
                have hS15H := Lib.hid hS15
                have hliveH := Lib.hid hlive
                clear hd15 hds15 ht15 hs15 hS15 htq15 hlive
                go_wp2_with fail
                refine (disk_live hd15H.out).mono ?_
                rintro e w' ⟨rfl, rfl⟩
                rw [hliveH.out]
                go_wp2_with fail
                refine (tape_pages htq15H.out).mono ?_
                rintro e w16 ⟨v16, rfl, hv16, hg16, _⟩
                obtain ⟨a16, c16, rfl⟩ := hv16.len
                have hS16H := Lib.hid (hS15H.out.tail (.grown hg16 (fun _ h => by cases h)))
                clear hv16 hg16
                simp only
                go_wp2_with fail
                go_ret
                exact ⟨by simp, g15, hS16H.out⟩
    · have hfd : decide (vs.length ≤ 100 ∧ lenSum vs ≤ 10000) = false := by simp only [decide_eq_false_iff_not]; exact hfew
      rw [hfd]
      clear hfd hfew
      go_wp2_with fail
      go_ret
      exact ⟨rfl, g1, hs1H.out⟩
  · have hfd : decide (us.length ≤ 100 ∧ lenSum us ≤ 10000) = false := by simp only [decide_eq_false_iff_not]; exact hfew
    rw [hfd]
    clear hfd hfew
    go_wp2_with fail
    go_ret
    exact ⟨rfl, g1, hs1H.out⟩
end
end Go.Proofs.Ytlppoimdfclbaaa
