/- TapeTurned: the walk. -/
import Derived.Test.YtlppoimdfclbaaaDisk7
import Derived.Test.YtlppoimdfclbaaaLawBack
set_option linter.unusedVariables false
set_option linter.unusedSimpArgs false
namespace Go.Proofs.Ytlppoimdfclbaaa
open Go.RowKit

theorem Laid.turned {D : Dk} {t : Tp} {S : List UInt8} (h : Laid D t.pages S) (hrg : ∀ n ∈ t.pages, 0 ≤ n ∧ n < 16384) (hv : ValidPage D.page) (hcl : D.clean = true) {k bit m : Nat} (hk : k < t.pages.length) (hb : bit + 32 ≤ 8 * D.page) (hm : m < 4294967296) (hm0 : m ≠ 0) :
    PagesOk { D with pages := pset D.pages t.pages[k] (turnTo (sealPage D.page (nextOf t.pages k) (chunk (room D) S k)) bit m 32) } t S ∧ BadAt { D with pages := pset D.pages t.pages[k] (turnTo (sealPage D.page (nextOf t.pages k) (chunk (room D) S k)) bit m 32) } t.pages k := by
  have hl := sealPage_length (next := nextOf t.pages k) hv.lo (chunk_len (room D) S k)
  have hs := sealPage_sum (next := nextOf t.pages k) hv.lo (chunk_len (room D) S k)
  have hbad := turned_sum (pg := sealPage D.page (nextOf t.pages k) (chunk (room D) S k)) (by rw [hl]; exact hv.lo) hm hm0 (by rw [hl]; exact hb) hs
  have hmem : (t.pages[k], turnTo (sealPage D.page (nextOf t.pages k) (chunk (room D) S k)) bit m 32) ∈ pset D.pages t.pages[k] (turnTo (sealPage D.page (nextOf t.pages k) (chunk (room D) S k)) bit m 32) := mem_pset.2 (.inr ⟨rfl, _, h.lie k hk⟩)
  refine ⟨⟨h.hi, hrg, fun i hi => ?_⟩, hk, _, hmem, hbad⟩
  by_cases e : i = k
  · subst e
    exact ⟨_, hmem, by rw [turnTo_length]; exact hl, .inr ⟨hbad, hcl⟩⟩
  · refine ⟨_, mem_pset.2 (.inl ⟨?_, h.lie i hi⟩), sealPage_length hv.lo (chunk_len _ _ _), .inl rfl⟩
    intro e2
    exact e ((List.getElem_inj h.nodup).1 e2)

section
variable {g : Nat → Nat} {w : World} {ls : List (List UInt8)} {ad : Option Addr}
theorem read_turned {D D' : Dk} {t : Tp} {r : Int} {kk k : Nat} (hr : ReadOk D' t ls r kk) (hp : D'.page = D.page) (hcl : D'.clean = true) (hb : BadAt D' t.pages k) (h : Laid D t.pages (streamOf ls)) : r = 18 ∧ (streamOf (ls.take kk)).length ≤ k * room D := by
  have hroom : room D' = room D := by unfold room; rw [hp]
  have h1 := hr.2.2 k hb
  rw [hroom] at h1
  obtain ⟨hk, _⟩ := hb
  refine ⟨?_, h1⟩
  rcases hr.2.1 with ⟨_, h2⟩ | ⟨_, h2⟩ | ⟨h2, _⟩
  · exfalso
    rw [h2, List.take_length] at h1
    have h3 := h.lo (List.ne_nil_of_length_pos (by omega))
    have h4 : k * room D ≤ (t.pages.length - 1) * room D := Nat.mul_le_mul_right _ (by omega)
    omega
  · rw [hcl] at h2; cases h2
  · exact h2
theorem stream_take_mono (ls : List (List UInt8)) {i j : Nat} (h : i ≤ j) : (streamOf (ls.take i)).length ≤ (streamOf (ls.take j)).length := by
  have := stream_take_le (ls.take j) i
  rw [List.take_take, Nat.min_eq_left h] at this
  exact this

set_option maxRecDepth 100000 in
set_option maxHeartbeats 8000000 in
theorem law_turned (c n0 n1 n2 : Nat) (hn0 : n0 < 4294967296) (hn1 : n1 < 4294967296) (hn2 : n2 < 4294967296) (hcap : ls.length ≤ c) (hg : GWf g w) (hb : BR [] g w ad ls) (hn : ls.length ≤ 140737488351232) (hl : ∀ l ∈ ls, l.length ≤ 140737488351232) :
    Calls Try.prog 8 #[.slice ad ls.length c, .agg #[.int .u32 n0, .int .u32 n1, .int .u32 n2]] w fun e w' => e = .returned (.bool true) ∧ ∃ g', Step [] g g' w w' := by
  have hgH := Lib.hid hg
  have hbH := Lib.hid hb
  clear hg hb
  go_enter Try.func8, Try.ntmps8
  go_wp2_with fail
  obtain ⟨w0, hw0⟩ : ∃ w0, w0 = w.alloc (.cells #[.int .u32 n0, .int .u32 n1, .int .u32 n2] 62) := ⟨_, rfl⟩
  rw [← hw0]
  have hs0 : Step [] g g w w0 := by rw [hw0]; exact .alloc _
  have hbox : w0.heap[w.heap.size]? = some (.cells #[.int .u32 n0, .int .u32 n1, .int .u32 n2] 62 (0, 0)) := by rw [hw0]; exact heap_alloc_new _ _
  have hbox0 : g w.heap.size = w.heap.size := hgH.out.2 _ (Nat.le_refl _)
  have hg0 := hs0.wf hgH.out
  have hs0H := Lib.hid hs0
  have hboxH := Lib.hid hbox
  have hg0H := Lib.hid hg0
  have hb0H := Lib.hid (hbH.out.step hs0 (by simp))
  clear hs0 hbox hw0 hg0
  refine (law_awake hg0H.out).mono ?_
  rintro e w1 ⟨rfl, g1, hs1⟩
  have hbox1 : w1.heap[w.heap.size]? = some (.cells #[.int .u32 n0, .int .u32 n1, .int .u32 n2] 62 (0, 0)) := hs1.at hboxH.out (by simp)
  have hb1 := hb0H.out.step hs1 (by simp)
  have hbo1 : g1 w.heap.size = w.heap.size := by rw [hs1.own_at hboxH.out (by simp)]; exact hbox0
  have hs1H := Lib.hid (hs0H.out.tail hs1)
  have hb1H := Lib.hid hb1
  have hbox1H := Lib.hid hbox1
  have hbo1H := Lib.hid hbo1
  have kb2 : w1.cell? ⟨w.heap.size, 2, none⟩ = some (.int .u32 n2) := cell_blk hbox1 rfl
  clear hs1 hb1 hbox1 hbo1 hbox0
  go_wp2_with fail
  refine (law_few c hb1H.out hn hl).mono ?_
  rintro e w' ⟨rfl, rfl⟩
  by_cases hfew : ls.length ≤ 100 ∧ lenSum ls ≤ 10000
  · have hfd : decide (ls.length ≤ 100 ∧ lenSum ls ≤ 10000) = true := by simp [hfew]
    rw [hfd]
    obtain ⟨hf1, hf2⟩ := hfew
    clear hfd
    by_cases hz : n2 = 0
    · have hz1 : ((n2 : Int) == 0) = true := by simp [hz]
      have hzH := Lib.hid hz
      clear hz
      go_wp2_with fail
      go_ret
      exact ⟨rfl, g1, hs1H.out⟩
    · have hz1 : ((n2 : Int) == 0) = false := by rw [beq_eq_false_iff_ne]; omega
      have hzH := Lib.hid hz
      clear hz
      go_wp2_with fail
      refine (disk_new 64 300 (.inl rfl) (by omega) (hs1H.out.wf hgH.out)).mono ?_
      rintro e w2 ⟨g2, rd, rfl, hrd, hd2, hs2⟩
      have hd2H := Lib.hid hd2
      have hs2H := Lib.hid hs2
      have hrd0 : w.heap.size ≤ rd := Nat.le_trans hs1H.out.size hrd
      have hrlt := hd2.lt
      clear hd2 hs2
      go_wp2_with fail
      refine (ledger_new 0 g2 w2 (hs2H.out.wf (hs1H.out.wf hgH.out))).mono ?_
      rintro e w3 ⟨rfl, hL3, hs3, hsz3⟩
      have hs13 := hs2H.out.tail hs3
      have hS3 := hs1H.out.tail hs13
      have hrl0 : w.heap.size ≤ w2.heap.size := (hs1H.out.tail hs2H.out).size
      have hrl1 : w1.heap.size ≤ w2.heap.size := hs2H.out.size
      have hd3H := Lib.hid (hd2H.out.step hs3 (by simp))
      have hL3H := Lib.hid hL3
      have hbox3 := hs13.at hbox1H.out (by simp)
      have hbox3o : g2 w.heap.size = w.heap.size := by rw [hs13.own_at hbox1H.out (by simp)]; exact hbo1H.out
      have hbox3H := Lib.hid hbox3
      have hbox3oH := Lib.hid hbox3o
      have hs3H := Lib.hid hS3
      have hb3H := Lib.hid (((hb1H.out.add hrd).add hrl1).step hs13 (by simp))
      have hboxlt := lt_of_block hbox1H.out
      obtain ⟨rl, hrl⟩ : ∃ rl, rl = w2.heap.size := ⟨_, rfl⟩
      rw [← hrl] at hL3H hb3H hrl0 hrlt hrl1 ⊢
      clear hL3 hs3 hs13 hS3 hbox3 hbox3o hrl hsz3 kb2
      go_wp2_with fail
      have hslen := stream_len ls
      refine (law_make_good (c := c) (hs3H.out.wf hgH.out) hd3H.out hL3H.out (by omega) (by simp only; omega) (hb3H.out.mono (by simp)) (by omega) (fun l hm => by have := lenSum_mem hm; omega) rfl (fun k hk => ?_)).mono ?_
      · have hr : room ⟨64, 300, [], true, 0⟩ = 54 := rfl
        rw [hr] at hk
        simp only [List.length_nil]; omega
      rintro e w4 ⟨g4, D4, t, pages, rfl, ht, hlaid, hds4, htp4, hd4, hL4, hs4⟩
      have hin2 : ∀ r ∈ [rd, rl], r ∈ ([] : List Nat) ∨ w.heap.size ≤ r := fun r hr => by
        simp only [List.mem_cons, List.not_mem_nil, or_false] at hr
        rcases hr with rfl | rfl
        · exact .inr hrd0
        · exact .inr hrl0
      have hS4 := Step.transNew hgH.out hs3H.out hs4 hin2
      have hbox4 := hs4.at hbox3H.out (by rw [hbox3oH.out]; simp; omega)
      have hbox4o : g4 w.heap.size = w.heap.size := by rw [hs4.own_at hbox3H.out (by rw [hbox3oH.out]; simp; omega)]; exact hbox3oH.out
      have hnin : w.heap.size ≤ t := by have := hs3H.out.size; omega
      have htrd : t ≠ rd := by have := hd3H.out.lt; omega
      have htrl : t ≠ rl := by have := hL3H.out.lt; omega
      have hL4b : LedgerAt g4 w4 rl ⟨min (max 0 0) 16777216, 0, 64⟩ := hL4
      have hpg4 : D4.page = 64 := hds4.page
      have hcl4 : D4.clean = true := hds4.clean
      have hin2H := Lib.hid hin2
      have hlaidH := Lib.hid hlaid
      have hds4H := Lib.hid hds4
      have htp4H := Lib.hid htp4
      have hd4H := Lib.hid hd4
      have hL4H := Lib.hid hL4b
      have hS4H := Lib.hid hS4
      have hslenH := Lib.hid hslen
      have hbox4H := Lib.hid hbox4
      have hbox4oH := Lib.hid hbox4o
      have hpg4H := Lib.hid hpg4
      have hcl4H := Lib.hid hcl4
      have hSlen : (streamOf ls).length ≤ 1000000000 := by omega
      clear hin2 hlaid hds4 htp4 hd4 hL4 hL4b hs4 hS4 ht hslen hbox4 hbox4o hpg4 hcl4
      go_wp2_with fail
      refine (tape_pages htp4H.out).mono ?_
      rintro e w5 ⟨v5, rfl, hv5, hg5, hk5⟩
      have hs5 : Step [] g4 g4 w4 w5 := .grown hg5 (fun _ h => by cases h)
      obtain ⟨a5, c5, rfl⟩ := hv5.len
      have hd5H := Lib.hid (hd4H.out.step hs5 (by simp))
      have ht5H := Lib.hid (htp4H.out.step hs5 (by simp))
      have hL5H := Lib.hid (hL4H.out.step hs5 (by simp))
      have hbox5H := Lib.hid (hs5.at hbox4H.out (by simp))
      have hS5H := Lib.hid (hS4H.out.tail hs5)
      have hv5H := Lib.hid hv5
      have hk5H := Lib.hid hk5
      clear hv5 hg5 hs5 hk5
      simp only
      by_cases hp0 : pages.length = 0
      · have hp1 : ((pages.length : Int) == 0) = true := by simp [hp0]
        have hp0H := Lib.hid hp0
        clear hp0
        go_wp2_with fail
        go_ret
        exact ⟨rfl, g4, hS5H.out⟩
      · have hp1 : ((pages.length : Int) == 0) = false := by rw [beq_eq_false_iff_ne]; omega
        have kb0 : w5.cell? ⟨w.heap.size, 0, none⟩ = some (.int .u32 n0) := cell_blk hbox5H.out rfl
        have kb1 : w5.cell? ⟨w.heap.size, 1, none⟩ = some (.int .u32 n1) := cell_blk hbox5H.out rfl
        have kb2 : w5.cell? ⟨w.heap.size, 2, none⟩ = some (.int .u32 n2) := cell_blk hbox5H.out rfl
        have hplen : pages.length ≤ 16384 := by obtain ⟨_, h⟩ := ht5H.out; exact h.short
        have hpos : 1 ≤ (pages.length : Int) := by omega
        obtain ⟨gb, cp, hvf⟩ := hv5H.out.form (by intro e; exact hp0 (by have := congrArg List.length e; simpa using this))
        injection hvf with e1 e2 e3
        subst e1 e3
        clear e2
        go_wp2_with fail
        obtain ⟨k, hkk, hk⟩ : ∃ k : Nat, wrap64 ((n0 : Int) % (pages.length : Int)) = (k : Int) ∧ k < pages.length := by
          refine ⟨n0 % pages.length, ?_, Nat.mod_lt _ (by omega)⟩
          have h1 : (n0 : Int) % (pages.length : Int) = ((n0 % pages.length : Nat) : Int) := by push_cast; rfl
          have h2 : n0 % pages.length < pages.length := Nat.mod_lt _ (by omega)
          rw [h1, wrap_id (by omega) (by omega)]
        rw [hkk]
        clear hkk
        obtain ⟨n, hn⟩ : ∃ n, n = pages[k] := ⟨_, rfl⟩
        have kn : w5.cell? ⟨gb, k, none⟩ = some (.int .i64 n) := by rw [hn]; exact hv5H.out.cell hk
        have hi0 : (0 : Int) ≤ (k : Int) := by omega
        have hi1 : (k : Int) < (pages.length : Int) := by omega
        have hnH := Lib.hid hn
        clear hn
        refine wp_region_held_drew (S := fun w' => w'.cell? ⟨gb, k, none⟩ = some (.int .i64 n) ∧ w'.cell? ⟨w.heap.size, 1, none⟩ = some (.int .u32 n1) ∧ w'.cell? ⟨w.heap.size, 2, none⟩ = some (.int .u32 n2)) (by kernel_rfl) ⟨kn, kb1, kb2⟩ (fun hHeld => ?_)
        refine wpAnyH_take (i := 0) (v := ?_) rfl (by kernel_rfl) (by kernel_rfl) (by kernel_rfl) (fun _ _ _ h => h) (Or.inl ⟨by kernel_rfl, ?_⟩) hHeld ?_
        rotate_left
        · intro w' hSw; (try dsimp only at hSw); go_simp
          all_goals (with_reducible rfl)
        simp only [Act.put, List.getElem_toArray, List.getElem_cons_zero, List.getElem_cons_succ, List.setIfInBounds_toArray, List.set_cons_zero, List.set_cons_succ]
        refine wpAnyH_take (i := 1) (v := ?_) rfl (by kernel_rfl) (by kernel_rfl) (by kernel_rfl) (fun _ _ _ h => h) (Or.inl ⟨by kernel_rfl, ?_⟩) hHeld ?_
        rotate_left
        · intro w' hSw; (try dsimp only at hSw); go_simp
          all_goals (with_reducible rfl)
        simp only [Act.put, List.getElem_toArray, List.getElem_cons_zero, List.getElem_cons_succ, List.setIfInBounds_toArray, List.set_cons_zero, List.set_cons_succ]
        refine wpAnyH_take (i := 2) (v := ?_) rfl (by kernel_rfl) (by kernel_rfl) (by kernel_rfl) (fun _ _ _ h => h) (Or.inl ⟨by kernel_rfl, ?_⟩) hHeld ?_
        rotate_left
        · intro w' hSw; (try dsimp only at hSw); go_simp
          all_goals (with_reducible rfl)
        simp only [Act.put, List.getElem_toArray, List.getElem_cons_zero, List.getElem_cons_succ, List.setIfInBounds_toArray, List.set_cons_zero, List.set_cons_succ]
        refine wpAnyH_take (i := 3) (v := ?_) rfl (by kernel_rfl) (by kernel_rfl) (by kernel_rfl) (fun _ _ _ h => h) (Or.inl ⟨by kernel_rfl, ?_⟩) hHeld ?_
        rotate_left
        · intro w' hSw; (try dsimp only at hSw); go_simp
          all_goals (with_reducible rfl)
        simp only [Act.put, List.getElem_toArray, List.getElem_cons_zero, List.getElem_cons_succ, List.setIfInBounds_toArray, List.set_cons_zero, List.set_cons_succ]
        refine wpAnyH_take (i := 4) (v := ?_) rfl (by kernel_rfl) (by kernel_rfl) (by kernel_rfl) (fun _ _ _ h => h) (Or.inl ⟨by kernel_rfl, ?_⟩) hHeld ?_
        rotate_left
        · intro w' hSw; (try dsimp only at hSw); go_simp
          all_goals (with_reducible rfl)
        simp only [Act.put, List.getElem_toArray, List.getElem_cons_zero, List.getElem_cons_succ, List.setIfInBounds_toArray, List.set_cons_zero, List.set_cons_succ]
        refine wpAnyH_take (i := 5) (v := ?_) rfl (by kernel_rfl) (by kernel_rfl) (by kernel_rfl) (fun _ _ _ h => h) (Or.inl ⟨by kernel_rfl, ?_⟩) hHeld ?_
        rotate_left
        · intro w' hSw; (try dsimp only at hSw); go_simp
          all_goals (with_reducible rfl)
        simp only [Act.put, List.getElem_toArray, List.getElem_cons_zero, List.getElem_cons_succ, List.setIfInBounds_toArray, List.set_cons_zero, List.set_cons_succ]
        refine wpAnyH_take (i := 6) (v := ?_) rfl (by kernel_rfl) (by kernel_rfl) (by kernel_rfl) (fun _ _ _ h => h) (Or.inl ⟨by kernel_rfl, ?_⟩) hHeld ?_
        rotate_left
        · intro w' hSw; (try dsimp only at hSw); go_simp
          all_goals (with_reducible rfl)
        simp only [Act.put, List.getElem_toArray, List.getElem_cons_zero, List.getElem_cons_succ, List.setIfInBounds_toArray, List.set_cons_zero, List.set_cons_succ]
        refine wpAnyH_take (i := 7) (v := ?_) rfl (by kernel_rfl) (by kernel_rfl) (by kernel_rfl) (fun _ _ _ h => h) (Or.inl ⟨by kernel_rfl, ?_⟩) hHeld ?_
        rotate_left
        · intro w' hSw; (try dsimp only at hSw); go_simp
          all_goals (with_reducible rfl)
        simp only [Act.put, List.getElem_toArray, List.getElem_cons_zero, List.getElem_cons_succ, List.setIfInBounds_toArray, List.set_cons_zero, List.set_cons_succ]
        refine wpAnyH_take (i := 8) (v := ?_) rfl (by kernel_rfl) (by kernel_rfl) (by kernel_rfl) (fun _ _ _ h => h) (Or.inl ⟨by kernel_rfl, ?_⟩) hHeld ?_
        rotate_left
        · intro w' hSw; (try dsimp only at hSw); go_simp
          all_goals (with_reducible rfl)
        simp only [Act.put, List.getElem_toArray, List.getElem_cons_zero, List.getElem_cons_succ, List.setIfInBounds_toArray, List.set_cons_zero, List.set_cons_succ]
        refine wpAnyH_take (i := 9) (v := ?_) rfl (by kernel_rfl) (by kernel_rfl) (by kernel_rfl) (fun _ _ _ h => h) (Or.inl ⟨by kernel_rfl, ?_⟩) hHeld ?_
        rotate_left
        · intro w' hSw; (try dsimp only at hSw); go_simp
          all_goals (with_reducible rfl)
        simp only [Act.put, List.getElem_toArray, List.getElem_cons_zero, List.getElem_cons_succ, List.setIfInBounds_toArray, List.set_cons_zero, List.set_cons_succ]
        refine wpAnyH_take (i := 10) (v := ?_) rfl (by kernel_rfl) (by kernel_rfl) (by kernel_rfl) (fun _ _ _ h => h) (Or.inl ⟨by kernel_rfl, ?_⟩) hHeld ?_
        rotate_left
        · intro w' hSw; (try dsimp only at hSw); go_simp
          all_goals (with_reducible rfl)
        simp only [Act.put, List.getElem_toArray, List.getElem_cons_zero, List.getElem_cons_succ, List.setIfInBounds_toArray, List.set_cons_zero, List.set_cons_succ]
        refine wpAnyH_ready (rs := [11]) (by kernel_rfl) (by simp) ?_
        refine AllReadyH.cons (o := _) rfl (fun K hK => ?_) AllReadyH.nil
        go_simp
        have he : IntKind.i64.wrap ((n1 : Int).tmod 481) = ((n1 % 481 : Nat) : Int) := by
          have h1 : (n1 : Int).tmod 481 = ((n1 % 481 : Nat) : Int) := by
            rw [Int.tmod_eq_emod_of_nonneg (by omega)]; push_cast; rfl
          rw [h1]
          exact IntWalk.i64_in _ (by omega)
        rw [he]
        clear he
        have hsd : Step [] g4 g4 w5 w5.drew := Step.drew
        have hval5 := hd5H.out.valid
        have hrng := hlaidH.out.range hd4H.out
        have hlk := hlaidH.out.lie k hk
        have htu := hlaidH.out.turned (t := ⟨rd, pages, ls.length, false⟩) (k := k) (bit := n1 % 481) (m := n2) hrng hval5 hcl4H.out hk (by rw [hpg4H.out]; omega) hn2 (fun e => hzH.out e)
        rw [← hnH.out] at hlk
        simp only at htu
        rw [← hnH.out] at htu
        obtain ⟨q, hq⟩ : ∃ q, q = sealPage D4.page (nextOf pages k) (chunk (room D4) (streamOf ls) k) := ⟨_, rfl⟩
        rw [← hq] at hlk htu
        obtain ⟨D6, hD6⟩ : ∃ D6 : Dk, D6 = { D4 with pages := pset D4.pages n (turnTo q (n1 % 481) n2 32) } := ⟨_, rfl⟩
        rw [← hD6] at htu
        have hturn := disk_turn (hd5H.out.step hsd (by simp)) n q hlk (n1 % 481) n2 (by rw [hpg4H.out]; omega) hn2
        rw [← hD6] at hturn
        refine hturn.mono ?_
        rintro e w6 ⟨rfl, hd6, hs6⟩
        have hgbo : g4 gb = gb := (hS4H.out.wf hgH.out).2 gb (hk5H.out gb rfl)
        have hgbrd : gb ≠ rd := by have := hk5H.out gb rfl; have := hd4H.out.lt; omega
        have hsd6 : Step [rd] g4 g4 w5 w6 := (hsd.mono (by simp)).tail hs6
        have hv6 : IRow w6 (.slice (some ⟨gb, 0, none⟩) pages.length c5) pages := hv5H.out.step hsd6 (fun x hx => by cases hx; rw [hgbo]; simp; exact hgbrd)
        have q0 : w6.cell? ⟨gb, k, none⟩ = some (.int .i64 n) := by rw [hnH.out]; exact hv6.cell hk
        have hboxrd : w.heap.size ≠ rd := by omega
        have hbox6 : w6.heap[w.heap.size]? = some (.cells #[.int .u32 n0, .int .u32 n1, .int .u32 n2] 62 (0, 0)) := hsd6.at hbox5H.out (by rw [hbox4oH.out]; simp; exact hboxrd)
        have q1 : w6.cell? ⟨w.heap.size, 1, none⟩ = some (.int .u32 n1) := cell_blk hbox6 rfl
        have q2 : w6.cell? ⟨w.heap.size, 2, none⟩ = some (.int .u32 n2) := cell_blk hbox6 rfl
        have ht6 : TpAt g4 w6 t ⟨rd, pages, ls.length, false⟩ := ht5H.out.step hsd6 (by simp; exact htrd)
        have hL6 := hL5H.out.step hsd6 (by simp; omega)
        have hS6 : Step [] g g4 w w6 := Step.transNew hgH.out hS5H.out hsd6 (fun x hx => by rw [List.mem_singleton.1 hx]; exact .inr hrd0)
        have hpg6 : D6.page = 64 := by rw [hD6]; exact hpg4H.out
        have hcl6 : D6.clean = true := by rw [hD6]; exact hcl4H.out
        have hnum6 : ∀ x ∈ pages, ∃ pg, (x, pg) ∈ D6.pages := fun x hx => by
          obtain ⟨i, hi, rfl⟩ := List.getElem_of_mem hx
          rw [hD6]; exact inD_pset (hlaidH.out.lie i hi)
        have hcnt6 : D6.pages.length = pages.length := by
          have h1 := hds4H.out.count
          rw [hD6]; simp only [pset_length]
          simp at h1; omega
        have hd6H := Lib.hid hd6
        have ht6H := Lib.hid ht6
        have hL6H := Lib.hid hL6
        have hS6H := Lib.hid hS6
        have hpg6H := Lib.hid hpg6
        have hcl6H := Lib.hid hcl6
        have hnum6H := Lib.hid hnum6
        have hcnt6H := Lib.hid hcnt6
        have htuH := Lib.hid htu
        clear hsd hval5 hrng hlk htu hq hturn hgbo hsd6 hv6 hbox6 ht6 hL6 hS6 hpg6 hcl6 hnum6 hcnt6 hd6 hs6 hD6
        refine hK.out _ _ ?_ (fun hHeld => ?_)
        · exact ⟨q0, q1, q2⟩
        clear hK K
        try simp only [Act.put, List.getElem_toArray, List.getElem_cons_zero, List.getElem_cons_succ, List.setIfInBounds_toArray, List.set_cons_zero, List.set_cons_succ]
        refine wpAnyH_take (i := 12) (v := ?_) rfl (by kernel_rfl) (by kernel_rfl) (by kernel_rfl) (fun _ _ _ h => h) (Or.inl ⟨by kernel_rfl, ?_⟩) hHeld ?_
        rotate_left
        · intro w' hSw; (try dsimp only at hSw); go_simp
          all_goals (with_reducible rfl)
        simp only [Act.put, List.getElem_toArray, List.getElem_cons_zero, List.getElem_cons_succ, List.setIfInBounds_toArray, List.set_cons_zero, List.set_cons_succ]
        refine wpAnyH_done (by kernel_rfl) ?_ _
        clear q0 q1 q2
        go_wp2_with fail
        refine (law_read (ls := ls) (t := ⟨rd, pages, ls.length, false⟩) (hS6H.out.wf hgH.out) hd6H.out hL6H.out ht6H.out htuH.out.1 rfl (by omega) (fun l hm => by have := lenSum_mem hm; omega) hSlen (by simp only; omega) htrd htrl (by rw [hpg6H.out]; simp only; omega)).mono ?_
        rintro e w7 ⟨g7, kk, xa, xc, r, rfl, hok, hx7, hd7, ht7, hL7, hs7⟩
        obtain ⟨rfl, hkk⟩ := read_turned hok (hpg6H.out.trans hpg4H.out.symm) hcl6H.out htuH.out.2 hlaidH.out
        have hkl : kk ≤ ls.length := hok.1
        have hroom : room D4 = 54 := by unfold room; rw [hpg4H.out]
        rw [hroom] at hkk
        have hS7 := Step.transNew hgH.out hS6H.out hs7 hin2H.out
        have hx7b := hx7 [] (fun x hx => by cases hx)
        have hd7H := Lib.hid hd7
        have ht7H := Lib.hid ht7
        obtain ⟨L7, hL7a, hL7b⟩ : ∃ L7 : Led, L7.held = 0 ∧ LedgerAt g7 w7 rl L7 := ⟨_, rfl, hL7⟩
        have hL7H := Lib.hid hL7b
        have hL7aH := Lib.hid hL7a
        have hS7H := Lib.hid hS7
        have hx7H := Lib.hid hx7b
        have hkkH := Lib.hid hkk
        clear hok hx7 hx7b hd7 ht7 hL7 hL7a hL7b hs7 hS7 hkk hroom
        go_wp2_with fail
        have hb7H := Lib.hid (hbH.out.step hS7H.out (by simp))
        go_loopw [14, 15] (fun a b wr => ∃ j : Nat, a = .int .i64 j ∧ b = .int .i64 ((streamOf (ls.take j)).length : Nat) ∧ j ≤ ls.length ∧ (streamOf (ls.take j)).length ≤ 54 * k ∧ wr = w7) (fun a _ _ => ls.length - (intOf a).toNat)
        case atStart => exact ⟨0, rfl, rfl, by omega, by simp [streamOf], rfl⟩
        case round =>
          obtain ⟨j, rfl, rfl, hj, hjS, rfl⟩ := hrel
          obtain ⟨m, hm⟩ : ∃ m, m = (streamOf (ls.take j)).length := ⟨_, rfl⟩
          rw [← hm] at hjS ⊢
          have hmb : m ≤ 1000000000 := by have := stream_take_le ls j; omega
          have hkb : k ≤ 16384 := by omega
          by_cases hgo : j < ls.length ∧ (streamOf (ls.take (j + 1))).length ≤ 54 * k
          · obtain ⟨hjl, hle⟩ := hgo
            have hjl1 : (j : Int) < (ls.length : Int) := by omega
            obtain ⟨b, o, a, ci, hae, hcell, hby⟩ := hb7H.out.get hjl
            obtain ⟨q, hq⟩ : ∃ q, q = ls[j].length := ⟨_, rfl⟩
            rw [← hq] at hcell
            have hnx : (streamOf (ls.take (j + 1))).length = m + 4 + q := by
              rw [stream_take_succ hjl, List.length_append, recOf, List.length_append, leBytes_length, hm, hq]; omega
            have hqb : q ≤ 10000 := by rw [hq]; have := lenSum_mem (List.getElem_mem (l := ls) (n := j) hjl); omega
            subst hae
            rw [hnx] at hle
            have hnxH := Lib.hid hnx
            have hmH := Lib.hid hm
            clear hnx hm hq hby
            have hle1 : (m : Int) + 4 + (q : Int) ≤ 54 * (k : Int) := by omega
            go_wp2_with fail
            refine ⟨⟨j + 1, by simp, by rw [hnxH.out]; simp, hjl, by rw [hnxH.out]; exact hle, by simp⟩, by simp only [intOf]; omega⟩
          · have hkj : kk ≤ j := by
              rcases Nat.lt_or_ge j kk with h1 | h1
              · exfalso
                have h2 := stream_take_mono ls (i := j + 1) (j := kk) (by omega)
                have h3 := hkkH.out
                exact hgo ⟨by omega, by omega⟩
              · exact h1
            have hcase : (∃ (b o : Nat) (a : Option Addr) (ci q : Nat), ad = some ⟨b, o, none⟩ ∧ wr.cell? ⟨b, o + j, none⟩ = some (.slice a q ci) ∧ (j : Int) < (ls.length : Int) ∧ q ≤ 10000 ∧ decide (m + 4 + q ≤ 54 * k) = false ∧ decide ((m : Int) + 4 + (q : Int) ≤ 54 * (k : Int)) = false) ∨ (decide (j < ls.length) = false ∧ decide ((j : Int) < (ls.length : Int)) = false) := by
              by_cases hjl : j < ls.length
              · left
                obtain ⟨b, o, a, ci, hae, hcell, hby⟩ := hb7H.out.get hjl
                have hnx : (streamOf (ls.take (j + 1))).length = m + 4 + ls[j].length := by
                  rw [stream_take_succ hjl, List.length_append, recOf, List.length_append, leBytes_length, hm]; omega
                have hnl : ¬ m + 4 + ls[j].length ≤ 54 * k := fun h => hgo ⟨hjl, by rw [hnx]; exact h⟩
                refine ⟨b, o, a, ci, ls[j].length, hae, hcell, by omega, by have := lenSum_mem (List.getElem_mem (l := ls) (n := j) hjl); omega, by simp only [decide_eq_false_iff_not]; exact hnl, by simp only [decide_eq_false_iff_not]; omega⟩
              · right
                exact ⟨by simp only [decide_eq_false_iff_not]; exact hjl, by simp only [decide_eq_false_iff_not]; omega⟩
            have hmH := Lib.hid hm
            clear hgo hm
            have hkc : kk ≤ c := by omega
            rcases hcase with ⟨b, o, a, ci, q, hae, hcell, hd1, hqb, hd2, hd3⟩ | ⟨hd1, hd2⟩
            · subst hae
              go_wp2_with fail
              have hsame := law_same_true (ls := ls.take kk) xc c hx7H.out (hb7H.out.take kk) (by rw [List.length_take]; omega)
              rw [List.length_take, Nat.min_eq_left hkl] at hsame
              refine hsame.mono ?_
              clear hsame
              rintro e w8 ⟨rfl, n8, rfl⟩
              obtain ⟨W, hW⟩ : ∃ W, W = wr.drewN n8 := ⟨_, rfl⟩
              rw [← hW]
              have hs8 : Step [] g7 g7 wr W := by rw [hW]; exact Step.drewN _ n8
              have hd8H := Lib.hid (hd7H.out.step hs8 (by simp))
              have ht8H := Lib.hid (ht7H.out.step hs8 (by simp))
              have hL8H := Lib.hid (hL7H.out.step hs8 (by simp))
              have hS8H := Lib.hid (hS7H.out.tail hs8)
              clear hs8 hW
              go_wp2_with fail
              refine (ledger_held g7 W _ _ hL8H.out).mono ?_
              rintro e w' ⟨rfl, rfl⟩
              rw [hL7aH.out]
              go_wp2_with fail
              refine (tape_drop (hS8H.out.wf hgH.out) hd8H.out ht8H.out rfl htrd hlaidH.out.nodup hnum6H.out).mono ?_
              rintro e w9 ⟨rfl, g9, D9, hd9, hds9, ht9, hs9⟩
              have hS9 : Step [] g g9 w w9 := Step.transNew hgH.out hS8H.out hs9 (fun x hx => by
                simp only [List.mem_cons, List.not_mem_nil, or_false] at hx
                rcases hx with rfl | rfl
                · exact .inr hrd0
                · exact .inr hnin)
              have hlive : D9.pages.length = 0 := by
                have h1 := hds9.count
                have h2 := hcnt6H.out
                simp at h1; omega
              have hd9H := Lib.hid hd9
              have hS9H := Lib.hid hS9
              have hliveH := Lib.hid hlive
              clear hd9 hds9 ht9 hs9 hS9 hlive
              go_wp2_with fail
              refine (disk_live hd9H.out).mono ?_
              rintro e w' ⟨rfl, rfl⟩
              rw [hliveH.out]
              go_wp2_with fail
              go_ret
              exact ⟨rfl, g9, hS9H.out⟩
            · go_wp2_with fail
              have hsame := law_same_true (ls := ls.take kk) xc c hx7H.out (hb7H.out.take kk) (by rw [List.length_take]; omega)
              rw [List.length_take, Nat.min_eq_left hkl] at hsame
              refine hsame.mono ?_
              clear hsame
              rintro e w8 ⟨rfl, n8, rfl⟩
              obtain ⟨W, hW⟩ : ∃ W, W = wr.drewN n8 := ⟨_, rfl⟩
              rw [← hW]
              have hs8 : Step [] g7 g7 wr W := by rw [hW]; exact Step.drewN _ n8
              have hd8H := Lib.hid (hd7H.out.step hs8 (by simp))
              have ht8H := Lib.hid (ht7H.out.step hs8 (by simp))
              have hL8H := Lib.hid (hL7H.out.step hs8 (by simp))
              have hS8H := Lib.hid (hS7H.out.tail hs8)
              clear hs8 hW
              go_wp2_with fail
              refine (ledger_held g7 W _ _ hL8H.out).mono ?_
              rintro e w' ⟨rfl, rfl⟩
              rw [hL7aH.out]
              go_wp2_with fail
              refine (tape_drop (hS8H.out.wf hgH.out) hd8H.out ht8H.out rfl htrd hlaidH.out.nodup hnum6H.out).mono ?_
              rintro e w9 ⟨rfl, g9, D9, hd9, hds9, ht9, hs9⟩
              have hS9 : Step [] g g9 w w9 := Step.transNew hgH.out hS8H.out hs9 (fun x hx => by
                simp only [List.mem_cons, List.not_mem_nil, or_false] at hx
                rcases hx with rfl | rfl
                · exact .inr hrd0
                · exact .inr hnin)
              have hlive : D9.pages.length = 0 := by
                have h1 := hds9.count
                have h2 := hcnt6H.out
                simp at h1; omega
              have hd9H := Lib.hid hd9
              have hS9H := Lib.hid hS9
              have hliveH := Lib.hid hlive
              clear hd9 hds9 ht9 hs9 hS9 hlive
              go_wp2_with fail
              refine (disk_live hd9H.out).mono ?_
              rintro e w' ⟨rfl, rfl⟩
              rw [hliveH.out]
              go_wp2_with fail
              go_ret
              exact ⟨rfl, g9, hS9H.out⟩
  · have hfd : decide (ls.length ≤ 100 ∧ lenSum ls ≤ 10000) = false := by simp only [decide_eq_false_iff_not]; exact hfew
    rw [hfd]
    clear hfd hfew
    go_wp2_with fail
    go_ret
    exact ⟨rfl, g1, hs1H.out⟩
end
end Go.Proofs.Ytlppoimdfclbaaa
