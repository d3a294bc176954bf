/- TapeAborts: the walk. -/
import Derived.Test.YtlppoimdfclbaaaLawAdd
import Derived.Test.YtlppoimdfclbaaaLawNeed
namespace Go.Proofs.Ytlppoimdfclbaaa
open Go.RowKit

section
variable {F F2 : List Nat} {g g2 : Nat → Nat} {w : World} {ls ms : List (List UInt8)} {ad bd : Option Addr}

theorem make_big : ∃ C : Array Value, ∀ W : World, (Instr.makeSlice 35 (.int .i64 1048641) (.int .i64 1048641)).run Try.prog W = .ok (.slice (some ⟨W.heap.size, 0, none⟩) 1048641 1048641) (W.alloc (.cells C 5)) := by
  obtain ⟨i0, hi, hz0, hz1, hz2⟩ := info_parts info_u8
  obtain ⟨n, hn⟩ : ∃ n : Nat, n = 1048641 := ⟨_, rfl⟩
  refine ⟨madeCells (Value.int .u8 0).cells n, fun W => ?_⟩
  have hrun := run_make (P := Try.prog) W 35 5 i0 (.int .u8 0) Try.underlying35 hi hz0 .i64 .i64 n n (by omega) (Int.le_refl _) (by rw [hz2]; omega) (by omega)
  rw [hz1, Nat.mul_one, Int.toNat_natCast] at hrun
  have e : ((n : Nat) : Int) = 1048641 := by omega
  rw [e] at hrun
  rw [hrun, hn]

set_option maxRecDepth 100000 in
set_option maxHeartbeats 4000000 in
theorem law_aborts (c at_ : Nat) (hat : at_ < 256) (hg : GWf g w) (hb : BR [] g w ad ls) (hn : ls.length ≤ 140737488351232) (hl : ∀ l ∈ ls, l.length ≤ 140737488351232) :
    Calls Try.prog 6 #[.slice ad ls.length c, .int .u8 at_] w fun e w' => e = .returned (.bool true) ∧ ∃ g', Step [] g g' w w' := by
  have hgH := Lib.hid hg
  have hbH := Lib.hid hb
  clear hg hb
  go_enter Try.func6, Try.ntmps6
  go_wp2_with fail
  refine (law_awake hgH.out).mono ?_
  rintro e w1 ⟨rfl, g1, hs1⟩
  have hb1 := hbH.out.step hs1 (by simp)
  have hs1H := Lib.hid hs1
  have hb1H := Lib.hid hb1
  clear hs1 hb1
  go_wp2_with fail
  refine (law_few c hb1H.out hn hl).mono ?_
  rintro e w' ⟨rfl, rfl⟩
  by_cases hfew : ls.length ≤ 100 ∧ lenSum ls ≤ 10000
  · have hfd : decide (ls.length ≤ 100 ∧ lenSum ls ≤ 10000) = true := by simp [hfew]
    rw [hfd]
    obtain ⟨hf1, hf2⟩ := hfew
    clear hfd
    go_wp2_with fail
    refine (disk_new 64 300 (.inl rfl) (by omega) (hs1H.out.wf hgH.out)).mono ?_
    rintro e w2 ⟨g2, rd, rfl, hrd, hd2, hs2⟩
    have hb2 := (hb1H.out.add hrd).step hs2 (by simp)
    have hd2H := Lib.hid hd2
    have hs2H := Lib.hid (hs1H.out.tail hs2)
    have hb2H := Lib.hid hb2
    have hrd0 : w.heap.size ≤ rd := Nat.le_trans hs1H.out.size hrd
    have hrlt := hd2.lt
    clear hd2 hs2 hb2
    go_wp2_with fail
    refine (ledger_new 0 g2 w2 (hs2H.out.wf hgH.out)).mono ?_
    rintro e w3 ⟨rfl, hL3, hs3, hsz3⟩
    have hb3 := (hb2H.out.add (Nat.le_refl w2.heap.size)).step hs3 (by simp)
    have hd3 := hd2H.out.step hs3 (by simp)
    have hL3H := Lib.hid hL3
    have hd3H := Lib.hid hd3
    have hs3H := Lib.hid (hs2H.out.tail hs3)
    have hb3H := Lib.hid hb3
    clear hL3 hs3 hb3 hd3
    go_wp2_with fail
    refine (tape_create (hs3H.out.wf hgH.out) hd3H.out hL3H.out (by omega) (by simp only; omega)).mono ?_
    rintro e w4 ⟨p, g4, rfl, hp, hw4, hd4, hL4, hs4⟩
    have hp2 : w2.heap.size < p := by omega
    have hb4 := (hb3H.out.add hp).step hs4 (by simp)
    have hsz2 := hs2H.out.size
    have hS4 : Step [] g g4 w w4 := Step.transNew hgH.out hs3H.out hs4 (fun r hr => by rw [List.mem_singleton.1 hr]; exact .inr hsz2)
    have hst4H := Lib.hid hs4
    have hw4H := Lib.hid hw4
    have hd4H := Lib.hid hd4
    have hL4H := Lib.hid hL4
    have hS4H := Lib.hid hS4
    have hb4H := Lib.hid hb4
    clear hw4 hd4 hL4 hs4 hS4 hb4
    go_wp2_with fail
    refine (ledger_held g4 w4 _ _ hL4H.out).mono ?_
    rintro e w' ⟨rfl, rfl⟩
    go_wp2_with fail
    have hin : MakeIn g2 w3 rd w2.heap.size ⟨64, 300, [], true, 0⟩ ⟨min (max 0 0) 16777216, 0, 0⟩ ls p w4 g4 ⟨64, 300, [], true, 0⟩ ⟨rd, w2.heap.size, [], 0, [], false⟩ 0 := ⟨hp, hw4H.out, rfl, rfl, rfl, rfl, ⟨⟨List.nodup_nil, fun n hn => (by cases hn), fun _ => rfl, by simp [streamOf], by simp [streamOf], by simp [streamOf], fun i hi => by simp at hi⟩, fun h => absurd rfl h⟩, hd4H.out, hL4H.out, .refl _ _, hst4H.out.mono (by simp)⟩
    have hinH := Lib.hid hin
    clear hin
    go_loopw [9] (fun i wr => ∃ (j : Nat) (g' : Nat → Nat) (D' : Dk) (W : Wr), i = .int .i64 j ∧ j ≤ ls.length ∧ MakeIn g2 w3 rd w2.heap.size ⟨64, 300, [], true, 0⟩ ⟨min (max 0 0) 16777216, 0, 0⟩ ls p wr g' D' W j) (fun i _ => ls.length - (intOf i).toNat)
    case atStart => exact ⟨0, g4, _, _, rfl, by omega, hinH.out⟩
    case round =>
      obtain ⟨j, g5, D5, W5, rfl, hj, hin5⟩ := hrel
      have hin5H := Lib.hid hin5
      clear hin5
      by_cases hjl : j < ls.length
      · have hjl1 : (j : Int) < (ls.length : Int) := by omega
        by_cases hja : (j : Int) < (at_ : Int) % 10
        · have hg3 := hs3H.out.wf hgH.out
          obtain ⟨b, o, a, ci, hae, hcell, hadd⟩ := hin5H.out.add hg3 hd3H.out hL3H.out (by omega) (hb3H.out.mono (by simp)) (by omega) (fun l hm => by have := lenSum_mem hm; omega) rfl (fun k hk => by
            rw [stream_len] at hk
            have hr : room ⟨64, 300, [], true, 0⟩ = 54 := rfl
            rw [hr] at hk
            simp only [List.length_nil]; omega) hjl
          subst hae
          obtain ⟨q, hq⟩ : ∃ q, q = ls[j].length := ⟨_, rfl⟩
          rw [← hq] at hcell hadd
          obtain ⟨C, hC⟩ := make_big
          have haddH := Lib.hid hadd
          clear hadd hq hg3
          have hwrap : IntKind.i64.wrap ((j : Int) + 1) = (j : Int) + 1 := IntWalk.i64_in _ (by omega)
          go_wp2_with fail
          refine haddH.out.mono ?_
          rintro e w6 ⟨rfl, g6, D6, W6, hin6⟩
          have hin6H := Lib.hid hin6
          clear hin6
          go_wp2_with fail
          have hin7 := hin6H.out.grow (Step.alloc (.cells C 5))
          refine (tape_add_long hin7.wrt hin7.over _ 1048641 1048641 (by decide)).mono ?_
          rintro e w' ⟨rfl, rfl⟩
          have hin7H := Lib.hid hin7
          clear hin7
          go_wp2_with fail
          exact ⟨⟨j + 1, g6, D6, W6, by simp, hjl, hin7H.out⟩, by simp only [intOf]; omega⟩
        · go_wp2_with fail
          have hin := hin5H.out
          obtain ⟨hp0, hwrt, hrdE, hrlE, hov, hcnt, hinv, hdisk, hled, hds, hst⟩ := hin
          have hS5 : Step [] g g5 w wr := Step.transNew hgH.out hs3H.out hst (fun r hr => by
            simp only [List.mem_cons, List.not_mem_nil, or_false] at hr
            rcases hr with rfl | rfl
            · exact .inr hrd0
            · exact .inr hsz2)
          refine (tape_abort (W := W5) (hS5.wf hgH.out) (by rw [hrdE]; exact hdisk) (by rw [hrlE]; exact hled) hwrt hov (by rw [hrdE]; omega) (by rw [hrlE]; omega) (by rw [hrdE, hrlE]; omega) hinv.1.toPages (by rw [hds.page]; simp only; omega)).mono ?_
          rintro e w6 ⟨rfl, g6, D6, hd6, hds6, hL6, ho6, hs6⟩
          rw [hrdE] at hd6 hs6
          rw [hrlE] at hL6 hs6
          have hS6 : Step [] g g6 w w6 := Step.transNew hgH.out hS5 hs6 (fun r hr => by
            simp only [List.mem_cons, List.not_mem_nil, or_false] at hr
            rcases hr with rfl | rfl | rfl
            · exact .inr hrd0
            · exact .inr hsz2
            · exact .inr (by omega))
          have hlive : D6.pages.length = 0 := by
            have h1 := hds.count
            have h2 := hds6.count
            simp only [List.length_nil] at h1 h2; omega
          rw [hds.page] at hL6
          have hd6H := Lib.hid hd6
          have hL6H := Lib.hid hL6
          have ho6H := Lib.hid ho6
          have hS6H := Lib.hid hS6
          have hliveH := Lib.hid hlive
          clear hp0 hwrt hrdE hrlE hov hcnt hinv hdisk hled hds hst hS5 hd6 hds6 hL6 ho6 hs6 hS6 hlive
          go_wp2_with fail
          refine (tape_close_over ho6H.out).mono ?_
          rintro e w' ⟨rfl, rfl⟩
          go_wp2_with fail
          refine (tape_add_over ho6H.out _).mono ?_
          rintro e w' ⟨rfl, rfl⟩
          go_wp2_with fail
          refine (tape_abort_over ho6H.out).mono ?_
          rintro e w' ⟨rfl, rfl⟩
          go_wp2_with fail
          refine (disk_live hd6H.out).mono ?_
          rintro e w' ⟨rfl, rfl⟩
          rw [hliveH.out]
          go_wp2_with fail
          refine (ledger_held g6 w6 _ _ hL6H.out).mono ?_
          rintro e w' ⟨rfl, rfl⟩
          go_wp2_with fail
          go_ret
          exact ⟨rfl, g6, hS6H.out⟩
      · have hjl1 : ¬ (j : Int) < (ls.length : Int) := by omega
        go_wp2_with fail
        have hin := hin5H.out
        obtain ⟨hp0, hwrt, hrdE, hrlE, hov, hcnt, hinv, hdisk, hled, hds, hst⟩ := hin
        have hS5 : Step [] g g5 w wr := Step.transNew hgH.out hs3H.out hst (fun r hr => by
          simp only [List.mem_cons, List.not_mem_nil, or_false] at hr
          rcases hr with rfl | rfl
          · exact .inr hrd0
          · exact .inr hsz2)
        refine (tape_abort (W := W5) (hS5.wf hgH.out) (by rw [hrdE]; exact hdisk) (by rw [hrlE]; exact hled) hwrt hov (by rw [hrdE]; omega) (by rw [hrlE]; omega) (by rw [hrdE, hrlE]; omega) hinv.1.toPages (by rw [hds.page]; simp only; omega)).mono ?_
        rintro e w6 ⟨rfl, g6, D6, hd6, hds6, hL6, ho6, hs6⟩
        rw [hrdE] at hd6 hs6
        rw [hrlE] at hL6 hs6
        have hS6 : Step [] g g6 w w6 := Step.transNew hgH.out hS5 hs6 (fun r hr => by
          simp only [List.mem_cons, List.not_mem_nil, or_false] at hr
          rcases hr with rfl | rfl | rfl
          · exact .inr hrd0
          · exact .inr hsz2
          · exact .inr (by omega))
        have hlive : D6.pages.length = 0 := by
          have h1 := hds.count
          have h2 := hds6.count
          simp only [List.length_nil] at h1 h2; omega
        rw [hds.page] at hL6
        have hd6H := Lib.hid hd6
        have hL6H := Lib.hid hL6
        have ho6H := Lib.hid ho6
        have hS6H := Lib.hid hS6
        have hliveH := Lib.hid hlive
        clear hp0 hwrt hrdE hrlE hov hcnt hinv hdisk hled hds hst hS5 hd6 hds6 hL6 ho6 hs6 hS6 hlive
        go_wp2_with fail
        refine (tape_close_over ho6H.out).mono ?_
        rintro e w' ⟨rfl, rfl⟩
        go_wp2_with fail
        refine (tape_add_over ho6H.out _).mono ?_
        rintro e w' ⟨rfl, rfl⟩
        go_wp2_with fail
        refine (tape_abort_over ho6H.out).mono ?_
        rintro e w' ⟨rfl, rfl⟩
        go_wp2_with fail
        refine (disk_live hd6H.out).mono ?_
        rintro e w' ⟨rfl, rfl⟩
        rw [hliveH.out]
        go_wp2_with fail
        refine (ledger_held g6 w6 _ _ hL6H.out).mono ?_
        rintro e w' ⟨rfl, rfl⟩
        go_wp2_with fail
        go_ret
        exact ⟨rfl, g6, hS6H.out⟩
  · have hfd : decide (ls.length ≤ 100 ∧ lenSum ls ≤ 10000) = false := by simp only [decide_eq_false_iff_not]; exact hfew
    rw [hfd]
    clear hfd hfew
    go_wp2_with fail
    go_ret
    exact ⟨rfl, g1, hs1H.out⟩
end
end Go.Proofs.Ytlppoimdfclbaaa
