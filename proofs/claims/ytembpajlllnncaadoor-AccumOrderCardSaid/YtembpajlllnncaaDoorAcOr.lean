/- The law AccumOrder, walked. -/
import Derived.Test.YtembpajlllnncaaDoorAcOp
import Derived.Test.YtembpajlllnncaaDoorAcZ
set_option linter.unusedVariables false
set_option linter.unusedSimpArgs false
namespace Go.Proofs.YtembpajlllnncaaDoor
open Go.RowKit

/-- Numbers that came in. -/
def NumsAt (w : World) (a : Option Addr) (n : Nat) (z : Nat → Int) : Prop := ∀ i, i < n → ∃ b o, a = some ⟨b, o, none⟩ ∧ w.cell? ⟨b, o + i, none⟩ = some (.int .i16 (z i))
/-- Whether a small value may be: some answer. -/
def MayH : Prop := ∀ (P : Nat → Prop) (x : Val) (cs : List Value) (w : World), VIs P w x cs → weightV x ≤ 3001 → Calls Tryd.prog 12 #[.agg cs.toArray] w (AnyBool w)
/-- What holds between two rounds. -/
def OrdI (w0 : World) (N : List Nat) (z : Nat → Int) (w : World) (S1 S2 S3 S4 S5 S6 : Nat) (q a mc : Nat) (n lo hi : Int) : Prop :=
  FlatN N w S1 1 ⟨a, numV n, 0⟩ ∧ FlatN N w S2 2 ⟨q, vL q lo, 0⟩ ∧ FlatN N w S3 3 ⟨q, vL q hi, 0⟩ ∧ FlatN N w S4 4 ⟨q, vL q (z 0), 0⟩ ∧ FlatN N w S5 5 ⟨q, vL q (z (q - 1)), 0⟩ ∧ FlatN N w S6 8 ⟨mc, noneV, 0⟩ ∧
    a ≤ 2 * q ∧ mc ≤ 2 * q ∧ (-32768 * (q : Int) ≤ n ∧ n ≤ 32768 * (q : Int)) ∧ (-32768 ≤ lo ∧ lo ≤ 32767) ∧ (-32768 ≤ hi ∧ hi ≤ 32767) ∧ (q = 0 → lo = z 0 ∧ hi = z 0) ∧ Step [] id id w0 w ∧ ∀ k ∈ N, k < w.heap.size
set_option maxRecDepth 100000 in
set_option maxHeartbeats 8000000 in
theorem law_ordr (hmay : MayH) {w : World} {a1 : Option Addr} {n1 c1 : Nat} {z : Nat → Int} {la : Option Addr} {n2 c2 : Nat} {l : List Val} (ht : Tw w) (hz : NumsAt w a1 n1 z) (hzr : ∀ i, i < n1 → -32768 ≤ z i ∧ z i ≤ 32767) (hl : LIs (fun k => k < w.heap.size) w l la 0) (hn : n2 = l.length) (hb1 : n1 ≤ 140737488351232) (hb2 : n2 ≤ 140737488351232) :
    Calls Tryd.prog 4 #[.slice a1 n1 c1, .slice la n2 c2] w fun e w' => e = .returned (.bool true) ∧ Step [] id id w w' := by
  have htH := Lib.hid ht
  have hzH := Lib.hid hz
  have hlH := Lib.hid hl
  have hnH := Lib.hid hn
  have hzrH := Lib.hid hzr
  have hmayH := Lib.hid hmay
  clear ht hz hl hn hzr hmay
  by_cases h40 : (n1 : Int) > 40
  · go_enter Tryd.func4, Tryd.ntmps4
    go_wp2_with (go_at_call 6; refine (ac_awake w htH.out).mono ?_; rintro e w1 ⟨rfl, hs1⟩; have hs1H := Lib.hid hs1; clear hs1)
    go_ret
    exact ⟨rfl, hs1H.out⟩
  by_cases h0 : n1 = 0
  · have h0i : (n1 : Int) = 0 := by omega
    go_enter Tryd.func4, Tryd.ntmps4
    go_wp2_with (go_at_call 6; refine (ac_awake w htH.out).mono ?_; rintro e w1 ⟨rfl, hs1⟩; have hs1H := Lib.hid hs1; clear hs1)
    go_ret
    exact ⟨rfl, hs1H.out⟩
  obtain ⟨b1, o1, ha1, -⟩ := hzH.out 0 (by omega)
  subst ha1
  have hzc := Lib.hid (show ∀ j, j < n1 → w.cell? ⟨b1, o1 + j, none⟩ = some (.int .i16 (z j)) from fun j hj => by
    obtain ⟨b, o, e, h⟩ := hzH.out j hj
    injection e with e
    injection e with e1 e2
    subst e1 e2
    exact h)
  have hz00 := hzc.out 0 (by omega)
  have hb1l : b1 < w.heap.size := World.block_lt_of_cell? _ _ hz00
  clear hz00 hzH
  have h0i : ((n1 : Int) == 0) = false := by rw [beq_eq_false_iff_ne]; omega
  have hn40 : n1 ≤ 40 := by omega
  have hd40 : decide ((40 : Int) < (n1 : Int)) = false := decide_eq_false (by omega)
  clear h40
  go_enter Tryd.func4, Tryd.ntmps4
  go_wp2_with (go_at_call 6; refine (ac_awake w htH.out).mono ?_; rintro e w1 ⟨rfl, hs1⟩; have hs1H := Lib.hid hs1; clear hs1)
  have hl1 := Lib.hid (LIs.keep (P2 := fun k => k < w.heap.size) (w' := w1) (fun _ h => h) (fun k hk hl => (hs1H.out.keep k hl (by simp)).2) _ _ _ hlH.out)
  refine (law_few hl1.out hnH.out hb2).mono ?_
  rintro e w2 ⟨r, rfl, hr, hs2⟩
  cases r
  · have hs2H := Lib.hid hs2
    clear hs2 hr
    go_wp2_with fail
    go_ret
    exact ⟨rfl, hs1H.out.tail hs2H.out⟩
  have hfew := Lib.hid (hr rfl)
  have hs2H := Lib.hid (hs1H.out.tail hs2)
  clear hr hs2 hl1
  by_cases h21 : (n2 : Int) > (n1 : Int)
  · go_wp2_with fail
    go_ret
    exact ⟨rfl, hs2H.out⟩
  have h21n : n2 ≤ n1 := by omega
  have hd21 : decide ((n1 : Int) < (n2 : Int)) = false := decide_eq_false (by omega)
  have hd21' : decide (n1 < n2) = false := decide_eq_false (by omega)
  clear h21
  go_wp2_with fail
  go_loopw [5] (fun iv wr => ∃ i : Nat, iv = .int .i64 i ∧ i ≤ n2 ∧ Step [] id id w wr ∧ ∀ (q : Nat) (hq : q < l.length), q < i → ¬ (l[q].kind = 3 ∨ l[q].kind = 4)) (fun iv _ => n2 - (intOf iv).toNat)
  case atStart => exact ⟨0, rfl, by omega, hs2H.out, fun q _ h => absurd h (Nat.not_lt_zero _)⟩
  case round =>
    obtain ⟨i, rfl, hi, hst, hall⟩ := hrel
    have hallH := Lib.hid hall
    have hstH := Lib.hid hst
    clear hall
    by_cases hin : i < n2
    · have hin1 : (i : Int) < (n2 : Int) := by omega
      have hil : i < l.length := by rw [← hnH.out]; exact hin
      have hlr : LIs (fun k => k < w.heap.size) wr l la 0 := LIs.keep (fun _ h => h) (fun k hk hl => (hst.keep k hl (by simp)).2) _ _ _ hlH.out
      obtain ⟨b, o, cs, hla, -, -, -⟩ := hlr.get hil
      subst hla
      obtain ⟨s, ba, bn, bc, fa, fn, fc, la1, ln1, lc1, hxj, -, q0, q1, q2, q3, q4, q5⟩ := elem_at hlr hil
      have hgr : b < wr.heap.size := World.block_lt_of_cell? _ _ q0
      obtain ⟨k1, hk1⟩ : ∃ k, k = l[i].kind := ⟨_, rfl⟩
      obtain ⟨m1, hm1⟩ : ∃ k, k = l[i].num := ⟨_, rfl⟩
      rw [← hk1] at q0
      rw [← hm1] at q1
      rw [← hk1, ← hm1] at hxj
      have hwrap : IntKind.i64.wrap ((i : Int) + 1) = (i : Int) + 1 := IntWalk.i64_in _ (by omega)
      by_cases h3 : k1 = 3
      · have h3b : (k1 == 3) = true := by rw [h3]; rfl
        clear hst hlr hxj
        go_wp2_with fail
        go_ret
        exact ⟨rfl, hstH.out⟩
      have h3b : (k1 == 3) = false := by rw [beq_eq_false_iff_ne]; exact h3
      by_cases h4 : k1 = 4
      · have h4b : (k1 == 4) = true := by rw [h4]; rfl
        clear hst hlr hxj
        go_wp2_with fail
        go_ret
        exact ⟨rfl, hstH.out⟩
      have h4b : (k1 == 4) = false := by rw [beq_eq_false_iff_ne]; exact h4
      obtain ⟨W3, hW3⟩ : ∃ W3, W3 = wr.alloc (.cells #[(.string ⟨#[]⟩), .int .i64 k1, .int .i64 m1, .string s, .slice ba bn bc, .slice fa fn fc, .slice la1 ln1 lc1] 40) := ⟨_, rfl⟩
      have hs3 : Step [] id id wr W3 := by rw [hW3]; exact Step.alloc _
      have hB : W3.heap[wr.heap.size]? = some (.cells #[(.string ⟨#[]⟩), .int .i64 k1, .int .i64 m1, .string s, .slice ba bn bc, .slice fa fn fc, .slice la1 ln1 lc1] 40 (0, 0)) := by rw [hW3]; exact heap_alloc_new wr _
      have hm := Lib.hid (hmayH.out _ _ _ _ (vis_doc1 (hxj.low.onto hs3) hB (lt_of_block hB)) (by have := hfew.out.2 i hil; simp [weightV, weightFs, weightLs]; omega))
      have hs3H := Lib.hid (hst.tail hs3)
      have hW3H := Lib.hid hW3
      have hkk := Lib.hid (show ¬ (l[i].kind = 3 ∨ l[i].kind = 4) by rw [← hk1]; omega)
      clear hst hlr hxj hs3 hB hW3 hk1 hm1
      go_wp2_with fail
      rw [← hW3H.out]
      refine hm.out.mono ?_
      rintro e w4 ⟨r, rfl, hs4⟩
      have hs4H := Lib.hid (hs3H.out.tail hs4)
      clear hs4
      cases r
      · go_wp2_with fail
        go_ret
        exact ⟨rfl, hs4H.out⟩
      · go_wp2_with fail
        go_roundw
        case rel =>
          refine ⟨i + 1, by go_num, by omega, hs4H.out, fun q hq hqi => ?_⟩
          by_cases hqe : q = i
          · subst hqe; exact hkk.out
          · exact hallH.out q hq (by omega)
        case measure => simp [intOf]; omega
    · have hin1 : ¬ (i : Int) < (n2 : Int) := by omega
      obtain rfl : i = n2 := by omega
      have hkinds := Lib.hid (show ∀ (q : Nat) (hq : q < l.length), ¬ (l[q].kind = 3 ∨ l[q].kind = 4) from fun q hq => hallH.out q hq (by rw [hnH.out]; exact hq))
      clear hst hallH
      go_wp2_with fail
      refine (new_flat (K := 1) (by omega) htH.out hstH.out).mono ?_
      rintro e v1 ⟨S1, rfl, hz1, hl1, hF1, ht1⟩
      have hF1H := Lib.hid hF1
      have hv1H := Lib.hid (hstH.out.tail ht1)
      have ht1H := Lib.hid ht1
      have hvz1 := ht1.size
      clear hF1 ht1
      go_wp2_with fail
      refine (new_flat (K := 2) (by omega) htH.out hv1H.out).mono ?_
      rintro e v2 ⟨S2, rfl, hz2, hl2, hF2, ht2⟩
      have hF2H := Lib.hid hF2
      have hv2H := Lib.hid (hv1H.out.tail ht2)
      have ht2H := Lib.hid ht2
      have hvz2 := ht2.size
      clear hF2 ht2
      go_wp2_with fail
      refine (new_flat (K := 3) (by omega) htH.out hv2H.out).mono ?_
      rintro e v3 ⟨S3, rfl, hz3, hl3, hF3, ht3⟩
      have hF3H := Lib.hid hF3
      have hv3H := Lib.hid (hv2H.out.tail ht3)
      have ht3H := Lib.hid ht3
      have hvz3 := ht3.size
      clear hF3 ht3
      go_wp2_with fail
      refine (new_flat (K := 4) (by omega) htH.out hv3H.out).mono ?_
      rintro e v4 ⟨S4, rfl, hz4, hl4, hF4, ht4⟩
      have hF4H := Lib.hid hF4
      have hv4H := Lib.hid (hv3H.out.tail ht4)
      have ht4H := Lib.hid ht4
      have hvz4 := ht4.size
      clear hF4 ht4
      go_wp2_with fail
      refine (new_flat (K := 5) (by omega) htH.out hv4H.out).mono ?_
      rintro e v5 ⟨S5, rfl, hz5, hl5, hF5, ht5⟩
      have hF5H := Lib.hid hF5
      have hv5H := Lib.hid (hv4H.out.tail ht5)
      have ht5H := Lib.hid ht5
      have hvz5 := ht5.size
      clear hF5 ht5
      go_wp2_with fail
      refine (new_flat (K := 8) (by omega) htH.out hv5H.out).mono ?_
      rintro e v6 ⟨S6, rfl, hz6, hl6, hF6, ht6⟩
      have hF6H := Lib.hid hF6
      have hv6H := Lib.hid (hv5H.out.tail ht6)
      have ht6H := Lib.hid ht6
      have hvz6 := ht6.size
      clear hF6 ht6
      go_wp2_with fail
      have hwS : w.heap.size ≤ S1 := by have := hstH.out.size; omega
      obtain ⟨N, hN⟩ : ∃ N, N = [S1, S2, S3, S4, S5, S6] := ⟨_, rfl⟩
      have hz0 := hv6H.out.cell (hzc.out 0 (by omega))
      rw [Nat.add_zero] at hz0
      have hb16 : b1 < v6.heap.size := by have := hv6H.out.size; omega
      have hn0n : 0 < n1 := by omega
      have hwl0 : IntKind.i64.wrap (z 0) = z 0 := IntWalk.i64_in _ (by have := hzrH.out 0 hn0n; omega)
      have hG1 := Lib.hid (((((((hF1H.out N).step ht2H.out).step ht3H.out).step ht4H.out).step ht5H.out).step ht6H.out).step (Step.drew (T := []) (g := id) (w := v6)))
      have hG2 := Lib.hid ((((((hF2H.out N).step ht3H.out).step ht4H.out).step ht5H.out).step ht6H.out).step (Step.drew (T := []) (g := id) (w := v6)))
      have hG3 := Lib.hid (((((hF3H.out N).step ht4H.out).step ht5H.out).step ht6H.out).step (Step.drew (T := []) (g := id) (w := v6)))
      have hG4 := Lib.hid ((((hF4H.out N).step ht5H.out).step ht6H.out).step (Step.drew (T := []) (g := id) (w := v6)))
      have hG5 := Lib.hid (((hF5H.out N).step ht6H.out).step (Step.drew (T := []) (g := id) (w := v6)))
      have hG6 := Lib.hid ((hF6H.out N).step (Step.drew (T := []) (g := id) (w := v6)))
      have hv6d := Lib.hid (hv6H.out.tail (Step.drew (w := v6)))
      clear hF1H hF2H hF3H hF4H hF5H hF6H hv1H hv2H hv3H hv4H hv5H ht1H ht2H ht3H ht4H ht5H ht6H hstH
      refine wp_region_held_drew (S := fun w' => w'.cell? ⟨b1, o1, none⟩ = some (.int .i16 (z 0))) (by kernel_rfl) hz0 (fun hHeld => ?_)
      refine wpAnyH_take (i := 0) (v := ?_) rfl (by kernel_rfl) (by kernel_rfl) (by kernel_rfl) (fun _ _ _ h => h) (Or.inl ⟨by kernel_rfl, ?_⟩) hHeld ?_
      rotate_left
      · intro w' hSw; (try dsimp only at hSw); go_simp
        all_goals (with_reducible rfl)
      simp only [Act.put, List.getElem_toArray, List.getElem_cons_zero, List.getElem_cons_succ, List.setIfInBounds_toArray, List.set_cons_zero, List.set_cons_succ]
      refine wpAnyH_take (i := 1) (v := ?_) rfl (by kernel_rfl) (by kernel_rfl) (by kernel_rfl) (fun _ _ _ h => h) (Or.inl ⟨by kernel_rfl, ?_⟩) hHeld ?_
      rotate_left
      · intro w' hSw; (try dsimp only at hSw); go_simp
        all_goals (with_reducible rfl)
      simp only [Act.put, List.getElem_toArray, List.getElem_cons_zero, List.getElem_cons_succ, List.setIfInBounds_toArray, List.set_cons_zero, List.set_cons_succ]
      refine wpAnyH_take (i := 2) (v := ?_) rfl (by kernel_rfl) (by kernel_rfl) (by kernel_rfl) (fun _ _ _ h => h) (Or.inl ⟨by kernel_rfl, ?_⟩) hHeld ?_
      rotate_left
      · intro w' hSw; (try dsimp only at hSw); go_simp
        all_goals (with_reducible rfl)
      simp only [Act.put, List.getElem_toArray, List.getElem_cons_zero, List.getElem_cons_succ, List.setIfInBounds_toArray, List.set_cons_zero, List.set_cons_succ]
      refine wpAnyH_take (i := 3) (v := ?_) rfl (by kernel_rfl) (by kernel_rfl) (by kernel_rfl) (fun _ _ _ h => h) (Or.inl ⟨by kernel_rfl, ?_⟩) hHeld ?_
      rotate_left
      · intro w' hSw; (try dsimp only at hSw); go_simp
        all_goals (with_reducible rfl)
      simp only [Act.put, List.getElem_toArray, List.getElem_cons_zero, List.getElem_cons_succ, List.setIfInBounds_toArray, List.set_cons_zero, List.set_cons_succ]
      refine wpAnyH_take (i := 4) (v := ?_) rfl (by kernel_rfl) (by kernel_rfl) (by kernel_rfl) (fun _ _ _ h => h) (Or.inl ⟨by kernel_rfl, ?_⟩) hHeld ?_
      rotate_left
      · intro w' hSw; (try dsimp only at hSw); go_simp
        all_goals (with_reducible rfl)
      simp only [Act.put, List.getElem_toArray, List.getElem_cons_zero, List.getElem_cons_succ, List.setIfInBounds_toArray, List.set_cons_zero, List.set_cons_succ]
      refine wpAnyH_take (i := 5) (v := ?_) rfl (by kernel_rfl) (by kernel_rfl) (by kernel_rfl) (fun _ _ _ h => h) (Or.inl ⟨by kernel_rfl, ?_⟩) hHeld ?_
      rotate_left
      · intro w' hSw; (try dsimp only at hSw); go_simp
        all_goals (with_reducible rfl)
      simp only [Act.put, List.getElem_toArray, List.getElem_cons_zero, List.getElem_cons_succ, List.setIfInBounds_toArray, List.set_cons_zero, List.set_cons_succ]
      refine wpAnyH_take (i := 6) (v := ?_) rfl (by kernel_rfl) (by kernel_rfl) (by kernel_rfl) (fun _ _ _ h => h) (Or.inl ⟨by kernel_rfl, ?_⟩) hHeld ?_
      rotate_left
      · intro w' hSw; (try dsimp only at hSw); go_simp
        all_goals (with_reducible rfl)
      simp only [Act.put, List.getElem_toArray, List.getElem_cons_zero, List.getElem_cons_succ, List.setIfInBounds_toArray, List.set_cons_zero, List.set_cons_succ]
      refine wpAnyH_take (i := 7) (v := ?_) rfl (by kernel_rfl) (by kernel_rfl) (by kernel_rfl) (fun _ _ _ h => h) (Or.inl ⟨by kernel_rfl, ?_⟩) hHeld ?_
      rotate_left
      · intro w' hSw; (try dsimp only at hSw); go_simp
        all_goals (with_reducible rfl)
      simp only [Act.put, List.getElem_toArray, List.getElem_cons_zero, List.getElem_cons_succ, List.setIfInBounds_toArray, List.set_cons_zero, List.set_cons_succ]
      refine wpAnyH_take (i := 8) (v := ?_) rfl (by kernel_rfl) (by kernel_rfl) (by kernel_rfl) (fun _ _ _ h => h) (Or.inl ⟨by kernel_rfl, ?_⟩) hHeld ?_
      rotate_left
      · intro w' hSw; (try dsimp only at hSw); go_simp
        all_goals (with_reducible rfl)
      simp only [Act.put, List.getElem_toArray, List.getElem_cons_zero, List.getElem_cons_succ, List.setIfInBounds_toArray, List.set_cons_zero, List.set_cons_succ]
      refine wpAnyH_take (i := 9) (v := ?_) rfl (by kernel_rfl) (by kernel_rfl) (by kernel_rfl) (fun _ _ _ h => h) (Or.inl ⟨by kernel_rfl, ?_⟩) hHeld ?_
      rotate_left
      · intro w' hSw; (try dsimp only at hSw); go_simp
        all_goals (with_reducible rfl)
      simp only [Act.put, List.getElem_toArray, List.getElem_cons_zero, List.getElem_cons_succ, List.setIfInBounds_toArray, List.set_cons_zero, List.set_cons_succ]
      refine wpAnyH_take (i := 10) (v := ?_) rfl (by kernel_rfl) (by kernel_rfl) (by kernel_rfl) (fun _ _ _ h => h) (Or.inl ⟨by kernel_rfl, ?_⟩) hHeld ?_
      rotate_left
      · intro w' hSw; (try dsimp only at hSw); go_simp
        all_goals (with_reducible rfl)
      simp only [Act.put, List.getElem_toArray, List.getElem_cons_zero, List.getElem_cons_succ, List.setIfInBounds_toArray, List.set_cons_zero, List.set_cons_succ]
      refine wpAnyH_done (by kernel_rfl) ?_ _
      clear hHeld hz0
      have hNm : ∀ k ∈ N, k < v6.heap.size := by rw [hN]; intro k hk; simp at hk; rcases hk with rfl | rfl | rfl | rfl | rfl | rfl <;> omega
      have hmem : S1 ∈ N ∧ S2 ∈ N ∧ S3 ∈ N ∧ S4 ∈ N ∧ S5 ∈ N ∧ S6 ∈ N := by rw [hN]; simp
      have hmemH := Lib.hid hmem
      have hNmH := Lib.hid hNm
      clear hN hmem hNm
      obtain ⟨v7, hv7⟩ : ∃ v7, v7 = v6.drew := ⟨_, rfl⟩
      rw [← hv7] at hG1 hG2 hG3 hG4 hG5 hG6 hv6d ⊢
      have hz67 : v6.heap.size ≤ v7.heap.size := by rw [hv7]; exact Nat.le_refl _
      clear hv7
      go_wp2_with fail
      go_loopw [12, 13, 14, 15, 16] (fun nv lov hiv mv iv wq => ∃ (q a mc : Nat) (n lo hi : Int), nv = .int .i64 n ∧ lov = .int .i64 lo ∧ hiv = .int .i64 hi ∧ mv = .int .i64 mc ∧ iv = .int .i64 q ∧ q ≤ n1 ∧ OrdI w N z wq S1 S2 S3 S4 S5 S6 q a mc n lo hi) (fun _ _ _ _ iv _ => n1 - (intOf iv).toNat)
      case atStart =>
        have hzz := hzrH.out 0 hn0n
        exact ⟨0, 0, 0, 0, z 0, z 0, rfl, rfl, rfl, rfl, rfl, by omega, hG1.out, hG2.out, hG3.out, hG4.out, hG5.out, hG6.out, by omega, by omega, by omega, hzz, hzz, fun _ => ⟨rfl, rfl⟩, hv6d.out, fun k hk => Nat.lt_of_lt_of_le (hNmH.out k hk) hz67⟩
      case round =>
        obtain ⟨q, a, mc, n, lo, hi, rfl, rfl, rfl, rfl, rfl, hq, hO⟩ := hrel
        by_cases hqn : q < n1
        · obtain ⟨hH1, hH2, hH3, hH4, hH5, hH6, ha, hmc, hnr, hlo, hhi, hq0, hsq, hNq⟩ := hO
          have hqi : (q : Int) < (n1 : Int) := by omega
          have hzq := hsq.cell (hzc.out q hqn)
          have hbq : b1 < wr.heap.size := by have := hsq.size; omega
          have hzr := hzrH.out q hqn
          obtain ⟨Z, hZ⟩ : ∃ Z, Z = z q := ⟨_, rfl⟩
          rw [← hZ] at hzq hzr
          have hZH := Lib.hid hZ
          clear hZ
          have hwn : IntKind.i64.wrap (n + Z) = n + Z := IntWalk.i64_in _ (by omega)
          have hwm : IntKind.i64.wrap ((mc : Int) + 1) = (mc : Int) + 1 := IntWalk.i64_in _ (by omega)
          have hwm2 : IntKind.i64.wrap ((mc : Int) + 1 + 1) = (mc : Int) + 1 + 1 := IntWalk.i64_in _ (by omega)
          have hwr : IntKind.i64.wrap ((q : Int) + 1) = (q : Int) + 1 := IntWalk.i64_in _ (by omega)
          have hwl : IntKind.i64.wrap Z = Z := IntWalk.i64_in _ (by omega)
          obtain ⟨u0, hu0⟩ : ∃ u0, u0 = wr.alloc (.cells #[.int .i64 3, .int .i64 Z, (.string ⟨#[]⟩), (.slice none 0 0), (.slice none 0 0), (.slice none 0 0)] 32) := ⟨_, rfl⟩
          have hs0 : Step [] id id wr u0 := by rw [hu0]; exact Step.alloc _
          have hV0 : u0.heap[wr.heap.size]? = some (.cells #[.int .i64 3, .int .i64 Z, (.string ⟨#[]⟩), (.slice none 0 0), (.slice none 0 0), (.slice none 0 0)] 32 (0, 0)) := by rw [hu0]; exact heap_alloc_new wr _
          have hVN := Lib.hid (show ∀ k ∈ N, k ≠ wr.heap.size from fun k hk => by have := hNq k hk; omega)
          have hzV : ∀ k ∈ N, k < u0.heap.size := fun k hk => Nat.lt_of_lt_of_le (hNq k hk) hs0.size
          have f0 := cell_blk hV0 (i := 0) rfl
          have f1 := cell_blk hV0 (i := 1) rfl
          have lV := lt_of_block hV0
          have hd0 : u0.drew.heap[wr.heap.size]? = _ := hV0
          have hV0H := Lib.hid hV0
          have hsdH := Lib.hid ((hsq.tail hs0).tail (Step.drew (w := u0)))
          have hu0H := Lib.hid hu0
          have hI1_0 := Lib.hid ((hH1.step hs0).step (Step.drew (T := []) (g := id) (w := u0)))
          have hI2_0 := Lib.hid ((hH2.step hs0).step (Step.drew (T := []) (g := id) (w := u0)))
          have hI3_0 := Lib.hid ((hH3.step hs0).step (Step.drew (T := []) (g := id) (w := u0)))
          have hI4_0 := Lib.hid ((hH4.step hs0).step (Step.drew (T := []) (g := id) (w := u0)))
          have hI5_0 := Lib.hid ((hH5.step hs0).step (Step.drew (T := []) (g := id) (w := u0)))
          have hI6_0 := Lib.hid ((hH6.step hs0).step (Step.drew (T := []) (g := id) (w := u0)))
          have hlohi := Lib.hid hq0
          have hltN := Lib.hid (show ∀ k ∈ N, k < u0.drew.heap.size from hzV)
          clear hH1 hH2 hH3 hH4 hH5 hH6 hq0 hsq hNq hs0 hV0 hu0 hzV hd0
          go_wp2_with fail
          rw [← hu0H.out]
          refine wp_region_held_drew (S := fun w' => w'.cell? ⟨wr.heap.size, 1, none⟩ = some (.int .i64 Z)) (by kernel_rfl) f1 (fun hHeld => ?_)
          refine wpAnyH_take (i := 0) (v := ?_) rfl (by kernel_rfl) (by kernel_rfl) (by kernel_rfl) (fun _ _ _ h => h) (Or.inl ⟨by kernel_rfl, ?_⟩) hHeld ?_
          rotate_left
          · intro w' hSw; (try dsimp only at hSw); go_simp
            all_goals (with_reducible rfl)
          simp only [Act.put, List.getElem_toArray, List.getElem_cons_zero, List.getElem_cons_succ, List.setIfInBounds_toArray, List.set_cons_zero, List.set_cons_succ]
          refine wpAnyH_take (i := 1) (v := ?_) rfl (by kernel_rfl) (by kernel_rfl) (by kernel_rfl) (fun _ _ _ h => h) (Or.inl ⟨by kernel_rfl, ?_⟩) hHeld ?_
          rotate_left
          · intro w' hSw; (try dsimp only at hSw); go_simp
            all_goals (with_reducible rfl)
          simp only [Act.put, List.getElem_toArray, List.getElem_cons_zero, List.getElem_cons_succ, List.setIfInBounds_toArray, List.set_cons_zero, List.set_cons_succ]
          refine wpAnyH_take (i := 2) (v := ?_) rfl (by kernel_rfl) (by kernel_rfl) (by kernel_rfl) (fun _ _ _ h => h) (Or.inl ⟨by kernel_rfl, ?_⟩) hHeld ?_
          rotate_left
          · intro w' hSw; (try dsimp only at hSw); go_simp
            all_goals (with_reducible rfl)
          simp only [Act.put, List.getElem_toArray, List.getElem_cons_zero, List.getElem_cons_succ, List.setIfInBounds_toArray, List.set_cons_zero, List.set_cons_succ]
          refine wpAnyH_take (i := 3) (v := ?_) rfl (by kernel_rfl) (by kernel_rfl) (by kernel_rfl) (fun _ _ _ h => h) (Or.inl ⟨by kernel_rfl, ?_⟩) hHeld ?_
          rotate_left
          · intro w' hSw; (try dsimp only at hSw); go_simp
            all_goals (with_reducible rfl)
          simp only [Act.put, List.getElem_toArray, List.getElem_cons_zero, List.getElem_cons_succ, List.setIfInBounds_toArray, List.set_cons_zero, List.set_cons_succ]
          refine wpAnyH_take (i := 4) (v := ?_) rfl (by kernel_rfl) (by kernel_rfl) (by kernel_rfl) (fun _ _ _ h => h) (Or.inl ⟨by kernel_rfl, ?_⟩) hHeld ?_
          rotate_left
          · intro w' hSw; (try dsimp only at hSw); go_simp
            all_goals (with_reducible rfl)
          simp only [Act.put, List.getElem_toArray, List.getElem_cons_zero, List.getElem_cons_succ, List.setIfInBounds_toArray, List.set_cons_zero, List.set_cons_succ]
          refine wpAnyH_take (i := 5) (v := ?_) rfl (by kernel_rfl) (by kernel_rfl) (by kernel_rfl) (fun _ _ _ h => h) (Or.inl ⟨by kernel_rfl, ?_⟩) hHeld ?_
          rotate_left
          · intro w' hSw; (try dsimp only at hSw); go_simp
            all_goals (with_reducible rfl)
          simp only [Act.put, List.getElem_toArray, List.getElem_cons_zero, List.getElem_cons_succ, List.setIfInBounds_toArray, List.set_cons_zero, List.set_cons_succ]
          refine wpAnyH_take (i := 6) (v := ?_) rfl (by kernel_rfl) (by kernel_rfl) (by kernel_rfl) (fun _ _ _ h => h) (Or.inl ⟨by kernel_rfl, ?_⟩) hHeld ?_
          rotate_left
          · intro w' hSw; (try dsimp only at hSw); go_simp
            all_goals (with_reducible rfl)
          simp only [Act.put, List.getElem_toArray, List.getElem_cons_zero, List.getElem_cons_succ, List.setIfInBounds_toArray, List.set_cons_zero, List.set_cons_succ]
          refine wpAnyH_take (i := 7) (v := ?_) rfl (by kernel_rfl) (by kernel_rfl) (by kernel_rfl) (fun _ _ _ h => h) (Or.inl ⟨by kernel_rfl, ?_⟩) hHeld ?_
          rotate_left
          · intro w' hSw; (try dsimp only at hSw); go_simp
            all_goals (with_reducible rfl)
          simp only [Act.put, List.getElem_toArray, List.getElem_cons_zero, List.getElem_cons_succ, List.setIfInBounds_toArray, List.set_cons_zero, List.set_cons_succ]
          refine wpAnyH_take (i := 8) (v := ?_) rfl (by kernel_rfl) (by kernel_rfl) (by kernel_rfl) (fun _ _ _ h => h) (Or.inl ⟨by kernel_rfl, ?_⟩) hHeld ?_
          rotate_left
          · intro w' hSw; (try dsimp only at hSw); go_simp
            all_goals (with_reducible rfl)
          simp only [Act.put, List.getElem_toArray, List.getElem_cons_zero, List.getElem_cons_succ, List.setIfInBounds_toArray, List.set_cons_zero, List.set_cons_succ]
          refine wpAnyH_take (i := 9) (v := ?_) rfl (by kernel_rfl) (by kernel_rfl) (by kernel_rfl) (fun _ _ _ h => h) (Or.inl ⟨by kernel_rfl, ?_⟩) hHeld ?_
          rotate_left
          · intro w' hSw; (try dsimp only at hSw); go_simp
            all_goals (with_reducible rfl)
          simp only [Act.put, List.getElem_toArray, List.getElem_cons_zero, List.getElem_cons_succ, List.setIfInBounds_toArray, List.set_cons_zero, List.set_cons_succ]
          refine wpAnyH_take (i := 10) (v := ?_) rfl (by kernel_rfl) (by kernel_rfl) (by kernel_rfl) (fun _ _ _ h => h) (Or.inl ⟨by kernel_rfl, ?_⟩) hHeld ?_
          rotate_left
          · intro w' hSw; (try dsimp only at hSw); go_simp
            all_goals (with_reducible rfl)
          simp only [Act.put, List.getElem_toArray, List.getElem_cons_zero, List.getElem_cons_succ, List.setIfInBounds_toArray, List.set_cons_zero, List.set_cons_succ]
          refine wpAnyH_take (i := 11) (v := ?_) rfl (by kernel_rfl) (by kernel_rfl) (by kernel_rfl) (fun _ _ _ h => h) (Or.inl ⟨by kernel_rfl, ?_⟩) hHeld ?_
          rotate_left
          · intro w' hSw; (try dsimp only at hSw); go_simp
            all_goals (with_reducible rfl)
          simp only [Act.put, List.getElem_toArray, List.getElem_cons_zero, List.getElem_cons_succ, List.setIfInBounds_toArray, List.set_cons_zero, List.set_cons_succ]
          refine wpAnyH_take (i := 12) (v := ?_) rfl (by kernel_rfl) (by kernel_rfl) (by kernel_rfl) (fun _ _ _ h => h) (Or.inl ⟨by kernel_rfl, ?_⟩) hHeld ?_
          rotate_left
          · intro w' hSw; (try dsimp only at hSw); go_simp
            all_goals (with_reducible rfl)
          simp only [Act.put, List.getElem_toArray, List.getElem_cons_zero, List.getElem_cons_succ, List.setIfInBounds_toArray, List.set_cons_zero, List.set_cons_succ]
          refine wpAnyH_take (i := 13) (v := ?_) rfl (by kernel_rfl) (by kernel_rfl) (by kernel_rfl) (fun _ _ _ h => h) (Or.inl ⟨by kernel_rfl, ?_⟩) hHeld ?_
          rotate_left
          · intro w' hSw; (try dsimp only at hSw); go_simp
            all_goals (with_reducible rfl)
          simp only [Act.put, List.getElem_toArray, List.getElem_cons_zero, List.getElem_cons_succ, List.setIfInBounds_toArray, List.set_cons_zero, List.set_cons_succ]
          refine wpAnyH_take (i := 14) (v := ?_) rfl (by kernel_rfl) (by kernel_rfl) (by kernel_rfl) (fun _ _ _ h => h) (Or.inl ⟨by kernel_rfl, ?_⟩) hHeld ?_
          rotate_left
          · intro w' hSw; (try dsimp only at hSw); go_simp
            all_goals (with_reducible rfl)
          simp only [Act.put, List.getElem_toArray, List.getElem_cons_zero, List.getElem_cons_succ, List.setIfInBounds_toArray, List.set_cons_zero, List.set_cons_succ]
          refine wpAnyH_done (by kernel_rfl) ?_ _
          clear hHeld f0 f1
          obtain ⟨x0, hx0⟩ : ∃ x0, x0 = u0.drew := ⟨_, rfl⟩
          have hV_0 := Lib.hid (show x0.heap[wr.heap.size]? = some (.cells #[.int .i64 3, .int .i64 Z, (.string ⟨#[]⟩), (.slice none 0 0), (.slice none 0 0), (.slice none 0 0)] 32 (0, 0)) by rw [hx0]; exact hV0H.out)
          rw [← hx0] at hI1_0 hI2_0 hI3_0 hI4_0 hI5_0 hI6_0 hsdH hltN ⊢
          have hst_0 := hsdH
          have hlV_0 : wr.heap.size < x0.heap.size := lt_of_block hV_0.out
          clear hx0 hsdH hV0H
          have hLim : -2147483648 ≤ n + Z ∧ n + Z ≤ 2147483647 := by omega
          obtain ⟨m1, m2, m3, m4, m5, m6⟩ := hmemH.out
          obtain ⟨g0, g1, g2, g3, g4, g5⟩ := cells6A hV_0.out
          go_wp2_with fail
          have hadd1 := add_flat (st' := ⟨a + 1, numV (n + Z), 0⟩) (Q := fun _ => False) (x := numV Z) (K := 1) (by omega) (by omega) htH.out hst_0.out hI1_0.out (fun k hk => Nat.lt_of_lt_of_le (hltN.out k hk) (by omega)) (show a ≤ 1000000000 by omega) (flat0 3 Z (by omega) (by unfold inR; omega)) (fun _ h => h.elim) (by simp [numV, weightV, weightFs, weightLs]) (fun _ => cmpH_flat (.inr (by simp [numV, Val.kind]))) (sum_step hLim)
          refine hadd1.mono ?_
          rintro e x1 ⟨rfl, hnew, hs⟩
          have hzx1 := hs.size
          have hst_1 := Lib.hid (hst_0.out.tailNew hs (fun r hr => .inr (by rw [List.mem_singleton] at hr; subst hr; omega)))
          have hV_1 := Lib.hid (hs.at hV_0.out (by simp; exact (fun e => hVN.out S1 m1 e.symm)))
          have hI1_1 := Lib.hid hnew
          have hI2_1 := Lib.hid (hI2_0.out.other hs (by omega) m1)
          have hI3_1 := Lib.hid (hI3_0.out.other hs (by omega) m1)
          have hI4_1 := Lib.hid (hI4_0.out.other hs (by omega) m1)
          have hI5_1 := Lib.hid (hI5_0.out.other hs (by omega) m1)
          have hI6_1 := Lib.hid (hI6_0.out.other hs (by omega) m1)
          clear hnew hs hadd1 g0 g1 g2 g3 g4 g5 hI1_0 hI2_0 hI3_0 hI4_0 hI5_0 hI6_0 hst_0 hV_0
          obtain ⟨g0, g1, g2, g3, g4, g5⟩ := cells6A hV_1.out
          go_wp2_with fail
          have hadd2 := add_flat (st' := ⟨q + 1, vL (q + 1) (min lo Z), 0⟩) (Q := fun _ => False) (x := numV Z) (K := 2) (by omega) (by omega) htH.out hst_1.out hI2_1.out (fun k hk => Nat.lt_of_lt_of_le (hltN.out k hk) (by omega)) (show q ≤ 1000000000 by omega) (flat0 3 Z (by omega) (by unfold inR; omega)) (fun _ h => h.elim) (by simp [numV, weightV, weightFs, weightLs]) (fun _ => cmpH_flat (.inr (by simp [numV, Val.kind]))) (least_step (fun h => by subst h; rw [hZH.out]; exact (hlohi.out rfl).1))
          refine hadd2.mono ?_
          rintro e x2 ⟨rfl, hnew, hs⟩
          have hzx2 := hs.size
          have hst_2 := Lib.hid (hst_1.out.tailNew hs (fun r hr => .inr (by rw [List.mem_singleton] at hr; subst hr; omega)))
          have hV_2 := Lib.hid (hs.at hV_1.out (by simp; exact (fun e => hVN.out S2 m2 e.symm)))
          have hI2_2 := Lib.hid hnew
          have hI1_2 := Lib.hid (hI1_1.out.other hs (by omega) m2)
          have hI3_2 := Lib.hid (hI3_1.out.other hs (by omega) m2)
          have hI4_2 := Lib.hid (hI4_1.out.other hs (by omega) m2)
          have hI5_2 := Lib.hid (hI5_1.out.other hs (by omega) m2)
          have hI6_2 := Lib.hid (hI6_1.out.other hs (by omega) m2)
          clear hnew hs hadd2 g0 g1 g2 g3 g4 g5 hI1_1 hI2_1 hI3_1 hI4_1 hI5_1 hI6_1 hst_1 hV_1
          obtain ⟨g0, g1, g2, g3, g4, g5⟩ := cells6A hV_2.out
          go_wp2_with fail
          have hadd3 := add_flat (st' := ⟨q + 1, vL (q + 1) (max hi Z), 0⟩) (Q := fun _ => False) (x := numV Z) (K := 3) (by omega) (by omega) htH.out hst_2.out hI3_2.out (fun k hk => Nat.lt_of_lt_of_le (hltN.out k hk) (by omega)) (show q ≤ 1000000000 by omega) (flat0 3 Z (by omega) (by unfold inR; omega)) (fun _ h => h.elim) (by simp [numV, weightV, weightFs, weightLs]) (fun _ => cmpH_flat (.inr (by simp [numV, Val.kind]))) (most_step (fun h => by subst h; rw [hZH.out]; exact (hlohi.out rfl).2))
          refine hadd3.mono ?_
          rintro e x3 ⟨rfl, hnew, hs⟩
          have hzx3 := hs.size
          have hst_3 := Lib.hid (hst_2.out.tailNew hs (fun r hr => .inr (by rw [List.mem_singleton] at hr; subst hr; omega)))
          have hV_3 := Lib.hid (hs.at hV_2.out (by simp; exact (fun e => hVN.out S3 m3 e.symm)))
          have hI3_3 := Lib.hid hnew
          have hI1_3 := Lib.hid (hI1_2.out.other hs (by omega) m3)
          have hI2_3 := Lib.hid (hI2_2.out.other hs (by omega) m3)
          have hI4_3 := Lib.hid (hI4_2.out.other hs (by omega) m3)
          have hI5_3 := Lib.hid (hI5_2.out.other hs (by omega) m3)
          have hI6_3 := Lib.hid (hI6_2.out.other hs (by omega) m3)
          clear hnew hs hadd3 g0 g1 g2 g3 g4 g5 hI1_2 hI2_2 hI3_2 hI4_2 hI5_2 hI6_2 hst_2 hV_2
          obtain ⟨g0, g1, g2, g3, g4, g5⟩ := cells6A hV_3.out
          go_wp2_with fail
          have hadd4 := add_flat (st' := ⟨q + 1, vL (q + 1) (z 0), 0⟩) (Q := fun _ => False) (x := numV Z) (K := 4) (by omega) (by omega) htH.out hst_3.out hI4_3.out (fun k hk => Nat.lt_of_lt_of_le (hltN.out k hk) (by omega)) (show q ≤ 1000000000 by omega) (flat0 3 Z (by omega) (by unfold inR; omega)) (fun _ h => h.elim) (by simp [numV, weightV, weightFs, weightLs]) (fun _ => cmpH_flat (.inr (by simp [numV, Val.kind]))) (first_step (fun h => by subst h; exact hZH.out))
          refine hadd4.mono ?_
          rintro e x4 ⟨rfl, hnew, hs⟩
          have hzx4 := hs.size
          have hst_4 := Lib.hid (hst_3.out.tailNew hs (fun r hr => .inr (by rw [List.mem_singleton] at hr; subst hr; omega)))
          have hV_4 := Lib.hid (hs.at hV_3.out (by simp; exact (fun e => hVN.out S4 m4 e.symm)))
          have hI4_4 := Lib.hid hnew
          have hI1_4 := Lib.hid (hI1_3.out.other hs (by omega) m4)
          have hI2_4 := Lib.hid (hI2_3.out.other hs (by omega) m4)
          have hI3_4 := Lib.hid (hI3_3.out.other hs (by omega) m4)
          have hI5_4 := Lib.hid (hI5_3.out.other hs (by omega) m4)
          have hI6_4 := Lib.hid (hI6_3.out.other hs (by omega) m4)
          clear hnew hs hadd4 g0 g1 g2 g3 g4 g5 hI1_3 hI2_3 hI3_3 hI4_3 hI5_3 hI6_3 hst_3 hV_3
          obtain ⟨g0, g1, g2, g3, g4, g5⟩ := cells6A hV_4.out
          go_wp2_with fail
          have hadd5 := add_flat (st' := ⟨q + 1, vL (q + 1) Z, 0⟩) (Q := fun _ => False) (x := numV Z) (K := 5) (by omega) (by omega) htH.out hst_4.out hI5_4.out (fun k hk => Nat.lt_of_lt_of_le (hltN.out k hk) (by omega)) (show q ≤ 1000000000 by omega) (flat0 3 Z (by omega) (by unfold inR; omega)) (fun _ h => h.elim) (by simp [numV, weightV, weightFs, weightLs]) (fun _ => cmpH_flat (.inr (by simp [numV, Val.kind]))) (last_step)
          refine hadd5.mono ?_
          rintro e x5 ⟨rfl, hnew, hs⟩
          have hzx5 := hs.size
          have hst_5 := Lib.hid (hst_4.out.tailNew hs (fun r hr => .inr (by rw [List.mem_singleton] at hr; subst hr; omega)))
          have hV_5 := Lib.hid (hs.at hV_4.out (by simp; exact (fun e => hVN.out S5 m5 e.symm)))
          have hI5_5 := Lib.hid hnew
          have hI1_5 := Lib.hid (hI1_4.out.other hs (by omega) m5)
          have hI2_5 := Lib.hid (hI2_4.out.other hs (by omega) m5)
          have hI3_5 := Lib.hid (hI3_4.out.other hs (by omega) m5)
          have hI4_5 := Lib.hid (hI4_4.out.other hs (by omega) m5)
          have hI6_5 := Lib.hid (hI6_4.out.other hs (by omega) m5)
          clear hnew hs hadd5 g0 g1 g2 g3 g4 g5 hI1_4 hI2_4 hI3_4 hI4_4 hI5_4 hI6_4 hst_4 hV_4
          obtain ⟨g0, g1, g2, g3, g4, g5⟩ := cells6A hV_5.out
          go_wp2_with fail
          have hadd6 := add_flat (st' := ⟨mc + 1, noneV, 0⟩) (Q := fun _ => False) (x := numV Z) (K := 8) (by omega) (by omega) htH.out hst_5.out hI6_5.out (fun k hk => Nat.lt_of_lt_of_le (hltN.out k hk) (by omega)) (show mc ≤ 1000000000 by omega) (flat0 3 Z (by omega) (by unfold inR; omega)) (fun _ h => h.elim) (by simp [numV, weightV, weightFs, weightLs]) (fun _ => cmpH_flat (.inr (by simp [numV, Val.kind]))) (count_step)
          refine hadd6.mono ?_
          rintro e x6 ⟨rfl, hnew, hs⟩
          have hzx6 := hs.size
          have hst_6 := Lib.hid (hst_5.out.tailNew hs (fun r hr => .inr (by rw [List.mem_singleton] at hr; subst hr; omega)))
          have hV_6 := Lib.hid (hs.at hV_5.out (by simp; exact (fun e => hVN.out S6 m6 e.symm)))
          have hI6_6 := Lib.hid hnew
          have hI1_6 := Lib.hid (hI1_5.out.other hs (by omega) m6)
          have hI2_6 := Lib.hid (hI2_5.out.other hs (by omega) m6)
          have hI3_6 := Lib.hid (hI3_5.out.other hs (by omega) m6)
          have hI4_6 := Lib.hid (hI4_5.out.other hs (by omega) m6)
          have hI5_6 := Lib.hid (hI5_5.out.other hs (by omega) m6)
          clear hnew hs g0 g1 g2 g3 g4 g5 hI1_5 hI2_5 hI3_5 hI4_5 hI5_5 hI6_5 hst_5 hV_5
          obtain ⟨g0, g1, g2, g3, g4, g5⟩ := cells6A hV_6.out
          have h5e : (⟨q + 1, vL (q + 1) Z, 0⟩ : ASt) = ⟨q + 1, vL (q + 1) (z (q + 1 - 1)), 0⟩ := by rw [show q + 1 - 1 = q by omega, hZH.out]
          rw [h5e] at hI5_6
          clear h5e hadd6 g0 g1 g2 g3 g4 g5
          by_cases hqi2 : q < i
          · have hqi3 : (q : Int) < (i : Int) := by omega
            have hql : q < l.length := by rw [← hnH.out]; exact hqi2
            have hlk := Lib.hid (fun (W : World) (hW : Step [] id id w W) => LIs.keep (P2 := fun k => k < w.heap.size) (w' := W) (fun _ h => h) (fun k hk hl => (hW.keep k hl (by simp)).2) _ _ _ hlH.out)
            obtain ⟨b2, o2, cs2, hla, -, -, -⟩ := (hlk.out _ hst_6.out).get hql
            subst hla
            obtain ⟨s2, ba2, bn2, bc2, fa2, fn2, fc2, la2, ln2, lc2, hxj, -, q0, q1, q2, q3, q4, q5⟩ := elem_at (hlk.out _ hst_6.out) hql
            have hgr2 : b2 < x6.heap.size := World.block_lt_of_cell? _ _ q0
            have hka := Lib.hid (hkinds.out q hql)
            have hww := Lib.hid (Nat.le_trans (hfew.out.2 q hql) (show 3000 ≤ 100000000 by omega))
            have hadd7 := add_flat (st' := ⟨a + 1 + 1, numV (n + Z), 0⟩) (K := 1) (by omega) (by omega) htH.out hst_6.out hI1_6.out (fun k hk => Nat.lt_of_lt_of_le (hltN.out k hk) (by omega)) (show a + 1 ≤ 1000000000 by omega) hxj (fun k hk => by omega) hww.out (fun h => by omega) (sum_pass hka.out)
            clear hxj
            go_wp2_with fail
            refine hadd7.mono ?_
            rintro e x7 ⟨rfl, hnew, hs⟩
            have hzx7 := hs.size
            have hst_7 := Lib.hid (hst_6.out.tailNew hs (fun r hr => .inr (by rw [List.mem_singleton] at hr; subst hr; omega)))
            have hI1_7 := Lib.hid hnew
            have hI2_7 := Lib.hid (hI2_6.out.other hs (by omega) m1)
            have hI3_7 := Lib.hid (hI3_6.out.other hs (by omega) m1)
            have hI4_7 := Lib.hid (hI4_6.out.other hs (by omega) m1)
            have hI5_7 := Lib.hid (hI5_6.out.other hs (by omega) m1)
            have hI6_7 := Lib.hid (hI6_6.out.other hs (by omega) m1)
            clear hnew hs hadd7 q0 q1 q2 q3 q4 q5 hI1_6 hI2_6 hI3_6 hI4_6 hI5_6 hI6_6 hst_6
            obtain ⟨s3, ba3, bn3, bc3, fa3, fn3, fc3, la3, ln3, lc3, hxj, -, q0, q1, q2, q3, q4, q5⟩ := elem_at (hlk.out _ hst_7.out) hql
            have hgr3 : b2 < x7.heap.size := World.block_lt_of_cell? _ _ q0
            have hadd8 := add_flat (st' := ⟨mc + 1 + 1, noneV, 0⟩) (K := 8) (by omega) (by omega) htH.out hst_7.out hI6_7.out (fun k hk => Nat.lt_of_lt_of_le (hltN.out k hk) (by omega)) (show mc + 1 ≤ 1000000000 by omega) hxj (fun k hk => by omega) hww.out (fun h => by omega) count_step
            clear hxj
            go_wp2_with fail
            refine hadd8.mono ?_
            rintro e x8 ⟨rfl, hnew, hs⟩
            have hzx8 := hs.size
            have hst_8 := Lib.hid (hst_7.out.tailNew hs (fun r hr => .inr (by rw [List.mem_singleton] at hr; subst hr; omega)))
            have hI6_8 := Lib.hid hnew
            have hI1_8 := Lib.hid (hI1_7.out.other hs (by omega) m6)
            have hI2_8 := Lib.hid (hI2_7.out.other hs (by omega) m6)
            have hI3_8 := Lib.hid (hI3_7.out.other hs (by omega) m6)
            have hI4_8 := Lib.hid (hI4_7.out.other hs (by omega) m6)
            have hI5_8 := Lib.hid (hI5_7.out.other hs (by omega) m6)
            clear hnew hs hadd8 q0 q1 q2 q3 q4 q5 hI1_7 hI2_7 hI3_7 hI4_7 hI5_7 hI6_7 hst_7
            go_wp2_with fail
            go_roundw
            case rel =>
              refine ⟨q + 1, a + 1 + 1, mc + 1 + 1, n + Z, min lo Z, max hi Z, rfl, rfl, rfl, ?_, by go_num, by omega, hI1_8.out, hI2_8.out, hI3_8.out, hI4_8.out, hI5_8.out, hI6_8.out, by omega, by omega, by omega, by omega, by omega, fun h => by omega, hst_8.out, fun k hk => Nat.lt_of_lt_of_le (hltN.out k hk) (by omega)⟩
              first | rfl | go_num
            case measure => simp [intOf]; omega
          · have hqi3 : ¬ (q : Int) < (i : Int) := by omega
            go_wp2_with fail
            go_roundw
            case rel =>
              refine ⟨q + 1, a + 1, mc + 1, n + Z, min lo Z, max hi Z, rfl, rfl, rfl, ?_, by go_num, by omega, hI1_6.out, hI2_6.out, hI3_6.out, hI4_6.out, hI5_6.out, hI6_6.out, by omega, by omega, by omega, by omega, by omega, fun h => by omega, hst_6.out, fun k hk => Nat.lt_of_lt_of_le (hltN.out k hk) (by omega)⟩
              first | rfl | go_num
            case measure => simp [intOf]; omega
        · obtain rfl : q = n1 := by omega
          obtain ⟨hH1, hH2, hH3, hH4, hH5, hH6, ha, hmc, hnr, hlo, hhi, hq0, hsq, hNq⟩ := hO
          obtain ⟨p, hp⟩ : ∃ p, p = q - 1 := ⟨_, rfl⟩
          have hvl : ∀ v, vL q v = numV v := fun v => if_neg (by omega)
          rw [hvl] at hH2 hH3 hH4 hH5
          rw [← hp] at hH5
          have hw0 := hzc.out 0 (by omega)
          have hwp := hzc.out p (by omega)
          rw [Nat.add_zero] at hw0
          have hpq : p < q := by omega
          have hpw : IntKind.i64.wrap ((q : Int) - 1) = (p : Int) := (IntWalk.i64_in _ (by omega)).trans (by omega)
          have hwl1 : IntKind.i64.wrap (z p) = z p := IntWalk.i64_in _ (by have := hzrH.out p (by omega); omega)
          have hfld1 : ∀ (k n : Int) (s : ByteArray) (b : Option Addr) (bn bc : Nat) (f : Option Addr) (fn fc : Nat) (l : Option Addr) (ln lc : Nat) (w' : World), (Instr.field 32 (.agg #[.int .i64 k, .int .i64 n, .string s, .slice b bn bc, .slice f fn fc, .slice l ln lc]) 1).run Tryd.prog w' = .ok (.int .i64 n) w' := fun _ _ _ _ _ _ _ _ _ _ _ _ _ => by kernel_rfl
          have hfld0 : ∀ (k n : Int) (s : ByteArray) (b : Option Addr) (bn bc : Nat) (f : Option Addr) (fn fc : Nat) (l : Option Addr) (ln lc : Nat) (w' : World), (Instr.field 32 (.agg #[.int .i64 k, .int .i64 n, .string s, .slice b bn bc, .slice f fn fc, .slice l ln lc]) 0).run Tryd.prog w' = .ok (.int .i64 k) w' := fun _ _ _ _ _ _ _ _ _ _ _ _ _ => by kernel_rfl
          have hbr : b1 < wr.heap.size := by have := hsq.size; omega
          have hv1 := Lib.hid (show ∀ W, Step [] id id wr W → Calls Tryd.prog 9 #[.pointer (some ⟨S1, 0, none⟩)] W fun e w' => ∃ s ba bn bc fa fn fc la ln lc, e = .returned (.agg #[.int .i64 3, .int .i64 (n), .string s, .slice ba bn bc, .slice fa fn fc, .slice la ln lc]) ∧ Step [] id id W w' from fun W hW => value_flat (st := ⟨a, numV n, 0⟩) (by omega) (hH1.step hW) (show a ≤ 1000000000 by omega) (by simp [numV, weightV, weightFs, weightLs]))
          have hv2 := Lib.hid (show ∀ W, Step [] id id wr W → Calls Tryd.prog 9 #[.pointer (some ⟨S2, 0, none⟩)] W fun e w' => ∃ s ba bn bc fa fn fc la ln lc, e = .returned (.agg #[.int .i64 3, .int .i64 (lo), .string s, .slice ba bn bc, .slice fa fn fc, .slice la ln lc]) ∧ Step [] id id W w' from fun W hW => value_flat (st := ⟨q, numV lo, 0⟩) (by omega) (hH2.step hW) (show q ≤ 1000000000 by omega) (by simp [numV, weightV, weightFs, weightLs]))
          have hv3 := Lib.hid (show ∀ W, Step [] id id wr W → Calls Tryd.prog 9 #[.pointer (some ⟨S3, 0, none⟩)] W fun e w' => ∃ s ba bn bc fa fn fc la ln lc, e = .returned (.agg #[.int .i64 3, .int .i64 (hi), .string s, .slice ba bn bc, .slice fa fn fc, .slice la ln lc]) ∧ Step [] id id W w' from fun W hW => value_flat (st := ⟨q, numV hi, 0⟩) (by omega) (hH3.step hW) (show q ≤ 1000000000 by omega) (by simp [numV, weightV, weightFs, weightLs]))
          have hv4 := Lib.hid (show ∀ W, Step [] id id wr W → Calls Tryd.prog 9 #[.pointer (some ⟨S4, 0, none⟩)] W fun e w' => ∃ s ba bn bc fa fn fc la ln lc, e = .returned (.agg #[.int .i64 3, .int .i64 ((z 0)), .string s, .slice ba bn bc, .slice fa fn fc, .slice la ln lc]) ∧ Step [] id id W w' from fun W hW => value_flat (st := ⟨q, numV (z 0), 0⟩) (by omega) (hH4.step hW) (show q ≤ 1000000000 by omega) (by simp [numV, weightV, weightFs, weightLs]))
          have hv5 := Lib.hid (show ∀ W, Step [] id id wr W → Calls Tryd.prog 9 #[.pointer (some ⟨S5, 0, none⟩)] W fun e w' => ∃ s ba bn bc fa fn fc la ln lc, e = .returned (.agg #[.int .i64 3, .int .i64 ((z p)), .string s, .slice ba bn bc, .slice fa fn fc, .slice la ln lc]) ∧ Step [] id id W w' from fun W hW => value_flat (st := ⟨q, numV (z p), 0⟩) (by omega) (hH5.step hW) (show q ≤ 1000000000 by omega) (by simp [numV, weightV, weightFs, weightLs]))
          have hv6 := Lib.hid (show ∀ W, Step [] id id wr W → Calls Tryd.prog 9 #[.pointer (some ⟨S6, 0, none⟩)] W fun e w' => ∃ k s ba bn bc fa fn fc la ln lc, e = .returned (.agg #[.int .i64 k, .int .i64 mc, .string s, .slice ba bn bc, .slice fa fn fc, .slice la ln lc]) ∧ Step [] id id W w' from fun W hW => (value_flat (st := ⟨mc, noneV, 0⟩) (by omega) (hH6.step hW) (by show mc ≤ _; omega) (by simp [noneV, weightV, weightFs, weightLs])).mono fun e w' h => by
            have hv : valueA 8 ⟨mc, noneV, 0⟩ = .mk (kindI mc) mc [] [] [] [] := by unfold valueA; rw [if_pos rfl]; exact ofI_eq _
            rw [hv] at h
            exact ⟨_, h⟩)
          have hcl := Lib.hid (fun (W : World) (hW : Step [] id id wr W) => And.intro (hW.cell (hsq.cell hw0)) (hW.cell (hsq.cell hwp)))
          have hc0 := hsq.cell hw0
          have hcp := hsq.cell hwp
          have hsqH := Lib.hid hsq
          have hy0 := Lib.hid (Step.drew (T := []) (g := id) (w := wr))
          have hpH := Lib.hid hp
          clear hH1 hH2 hH3 hH4 hH5 hH6 hp hw0 hwp hsq hq0 hNq hnr hlo hhi ha hmc hvl
          go_wp2_with fail
          refine wp_region_held_drew (S := fun w' => w'.cell? ⟨b1, o1, none⟩ = some (.int .i16 (z 0)) ∧ w'.cell? ⟨b1, o1 + p, none⟩ = some (.int .i16 (z p))) (by kernel_rfl) ⟨hc0, hcp⟩ (fun hHeld => ?_)
          refine wpAnyH_take (i := 0) (v := ?_) rfl (by kernel_rfl) (by kernel_rfl) (by kernel_rfl) (fun _ _ _ h => h) (Or.inl ⟨by kernel_rfl, ?_⟩) hHeld ?_
          rotate_left
          · intro w' hSw; (try dsimp only at hSw); go_simp
            all_goals (with_reducible rfl)
          simp only [Act.put, List.getElem_toArray, List.getElem_cons_zero, List.getElem_cons_succ, List.setIfInBounds_toArray, List.set_cons_zero, List.set_cons_succ]
          refine wpAnyH_take (i := 3) (v := ?_) rfl (by kernel_rfl) (by kernel_rfl) (by kernel_rfl) (fun _ _ _ h => h) (Or.inl ⟨by kernel_rfl, ?_⟩) hHeld ?_
          rotate_left
          · intro w' hSw; (try dsimp only at hSw); go_simp
            all_goals (with_reducible rfl)
          simp only [Act.put, List.getElem_toArray, List.getElem_cons_zero, List.getElem_cons_succ, List.setIfInBounds_toArray, List.set_cons_zero, List.set_cons_succ]
          refine wpAnyH_ready (rs := [1]) (by kernel_rfl) (by simp) ?_
          refine AllReadyH.cons (o := _) rfl (fun K hK => ?_) AllReadyH.nil
          go_simp
          refine (hv1.out _ hy0.out).mono ?_
          rintro e y1 ⟨s1, ba1, bn1, bc1, fa1, fn1, fc1, la1, ln1, lc1, rfl, hs⟩
          have hy1 := Lib.hid (hy0.out.tail hs)
          clear hs
          go_wp2_with fail
          refine hK.out _ _ ?_ (fun hHeld => ?_)
          · exact hcl.out _ hy1.out
          clear hK K
          refine wpAnyH_take (i := 2) (v := ?_) rfl (by kernel_rfl) (by kernel_rfl) (by kernel_rfl) (fun _ _ _ h => h) (Or.inl ⟨by kernel_rfl, ?_⟩) hHeld ?_
          rotate_left
          · intro w' hSw; (try dsimp only at hSw); go_simp
            all_goals (with_reducible rfl)
          simp only [Act.put, List.getElem_toArray, List.getElem_cons_zero, List.getElem_cons_succ, List.setIfInBounds_toArray, List.set_cons_zero, List.set_cons_succ]
          refine wpAnyH_take (i := 4) (v := ?_) rfl (by kernel_rfl) (by kernel_rfl) (by kernel_rfl) (fun _ _ _ h => h) (Or.inl ⟨by kernel_rfl, ?_⟩) hHeld ?_
          rotate_left
          · intro w' hSw; (try dsimp only at hSw); go_simp
            all_goals (with_reducible rfl)
          simp only [Act.put, List.getElem_toArray, List.getElem_cons_zero, List.getElem_cons_succ, List.setIfInBounds_toArray, List.set_cons_zero, List.set_cons_succ]
          refine wpAnyH_take (i := 5) (v := ?_) rfl (by kernel_rfl) (by kernel_rfl) (by kernel_rfl) (fun _ _ _ h => h) (Or.inl ⟨by kernel_rfl, ?_⟩) hHeld ?_
          rotate_left
          · intro w' hSw; (try dsimp only at hSw); go_simp
            all_goals (with_reducible rfl)
          simp only [Act.put, List.getElem_toArray, List.getElem_cons_zero, List.getElem_cons_succ, List.setIfInBounds_toArray, List.set_cons_zero, List.set_cons_succ]
          refine wpAnyH_take (i := 6) (v := ?_) rfl (by kernel_rfl) (by kernel_rfl) (by kernel_rfl) (fun _ _ _ h => h) (Or.inl ⟨by kernel_rfl, ?_⟩) hHeld ?_
          rotate_left
          · intro w' hSw; (try dsimp only at hSw); go_simp
            all_goals (with_reducible rfl)
          simp only [Act.put, List.getElem_toArray, List.getElem_cons_zero, List.getElem_cons_succ, List.setIfInBounds_toArray, List.set_cons_zero, List.set_cons_succ]
          refine wpAnyH_ready (rs := [7]) (by kernel_rfl) (by simp) ?_
          refine AllReadyH.cons (o := _) rfl (fun K hK => ?_) AllReadyH.nil
          go_simp
          refine (hv1.out _ hy1.out).mono ?_
          rintro e y2 ⟨s2, ba2, bn2, bc2, fa2, fn2, fc2, la2, ln2, lc2, rfl, hs⟩
          have hy2 := Lib.hid (hy1.out.tail hs)
          clear hs
          go_wp2_with fail
          refine hK.out _ _ ?_ (fun hHeld => ?_)
          · exact hcl.out _ hy2.out
          clear hK K
          refine wpAnyH_take (i := 8) (v := ?_) rfl (by kernel_rfl) (by kernel_rfl) (by kernel_rfl) (fun _ _ _ h => h) (Or.inl ⟨by kernel_rfl, ?_⟩) hHeld ?_
          rotate_left
          · intro w' hSw; (try dsimp only at hSw); go_simp
            all_goals (with_reducible rfl)
          simp only [Act.put, List.getElem_toArray, List.getElem_cons_zero, List.getElem_cons_succ, List.setIfInBounds_toArray, List.set_cons_zero, List.set_cons_succ]
          refine wpAnyH_take (i := 9) (v := ?_) rfl (by kernel_rfl) (by kernel_rfl) (by kernel_rfl) (fun _ _ _ h => h) (Or.inl ⟨by kernel_rfl, ?_⟩) hHeld ?_
          rotate_left
          · intro w' hSw; (try dsimp only at hSw); go_simp
            all_goals (with_reducible rfl)
          simp only [Act.put, List.getElem_toArray, List.getElem_cons_zero, List.getElem_cons_succ, List.setIfInBounds_toArray, List.set_cons_zero, List.set_cons_succ]
          refine wpAnyH_take (i := 10) (v := ?_) rfl (by kernel_rfl) (by kernel_rfl) (by kernel_rfl) (fun _ _ _ h => h) (Or.inl ⟨by kernel_rfl, ?_⟩) hHeld ?_
          rotate_left
          · intro w' hSw; (try dsimp only at hSw); go_simp
            all_goals (with_reducible rfl)
          simp only [Act.put, List.getElem_toArray, List.getElem_cons_zero, List.getElem_cons_succ, List.setIfInBounds_toArray, List.set_cons_zero, List.set_cons_succ]
          refine wpAnyH_take (i := 11) (v := ?_) rfl (by kernel_rfl) (by kernel_rfl) (by kernel_rfl) (fun _ _ _ h => h) (Or.inl ⟨by kernel_rfl, ?_⟩) hHeld ?_
          rotate_left
          · intro w' hSw; (try dsimp only at hSw); go_simp
            all_goals (with_reducible rfl)
          simp only [Act.put, List.getElem_toArray, List.getElem_cons_zero, List.getElem_cons_succ, List.setIfInBounds_toArray, List.set_cons_zero, List.set_cons_succ]
          refine wpAnyH_take (i := 12) (v := ?_) rfl (by kernel_rfl) (by kernel_rfl) (by kernel_rfl) (fun _ _ _ h => h) (Or.inl ⟨by kernel_rfl, ?_⟩) hHeld ?_
          rotate_left
          · intro w' hSw; (try dsimp only at hSw); go_simp
            all_goals (with_reducible rfl)
          simp only [Act.put, List.getElem_toArray, List.getElem_cons_zero, List.getElem_cons_succ, List.setIfInBounds_toArray, List.set_cons_zero, List.set_cons_succ]
          refine wpAnyH_take (i := 15) (v := ?_) rfl (by kernel_rfl) (by kernel_rfl) (by kernel_rfl) (fun _ _ _ h => h) (Or.inl ⟨by kernel_rfl, ?_⟩) hHeld ?_
          rotate_left
          · intro w' hSw; (try dsimp only at hSw); go_simp
            all_goals (with_reducible rfl)
          simp only [Act.put, List.getElem_toArray, List.getElem_cons_zero, List.getElem_cons_succ, List.setIfInBounds_toArray, List.set_cons_zero, List.set_cons_succ]
          refine wpAnyH_ready (rs := [13]) (by kernel_rfl) (by simp) ?_
          refine AllReadyH.cons (o := _) rfl (fun K hK => ?_) AllReadyH.nil
          go_simp
          refine (hv2.out _ hy2.out).mono ?_
          rintro e y3 ⟨s3, ba3, bn3, bc3, fa3, fn3, fc3, la3, ln3, lc3, rfl, hs⟩
          have hy3 := Lib.hid (hy2.out.tail hs)
          clear hs
          go_wp2_with fail
          refine hK.out _ _ ?_ (fun hHeld => ?_)
          · exact hcl.out _ hy3.out
          clear hK K
          refine wpAnyH_take (i := 14) (v := ?_) rfl (by kernel_rfl) (by kernel_rfl) (by kernel_rfl) (fun _ _ _ h => h) (Or.inl ⟨by kernel_rfl, ?_⟩) hHeld ?_
          rotate_left
          · intro w' hSw; (try dsimp only at hSw); go_simp
            all_goals (with_reducible rfl)
          simp only [Act.put, List.getElem_toArray, List.getElem_cons_zero, List.getElem_cons_succ, List.setIfInBounds_toArray, List.set_cons_zero, List.set_cons_succ]
          refine wpAnyH_take (i := 16) (v := ?_) rfl (by kernel_rfl) (by kernel_rfl) (by kernel_rfl) (fun _ _ _ h => h) (Or.inl ⟨by kernel_rfl, ?_⟩) hHeld ?_
          rotate_left
          · intro w' hSw; (try dsimp only at hSw); go_simp
            all_goals (with_reducible rfl)
          simp only [Act.put, List.getElem_toArray, List.getElem_cons_zero, List.getElem_cons_succ, List.setIfInBounds_toArray, List.set_cons_zero, List.set_cons_succ]
          refine wpAnyH_take (i := 17) (v := ?_) rfl (by kernel_rfl) (by kernel_rfl) (by kernel_rfl) (fun _ _ _ h => h) (Or.inl ⟨by kernel_rfl, ?_⟩) hHeld ?_
          rotate_left
          · intro w' hSw; (try dsimp only at hSw); go_simp
            all_goals (with_reducible rfl)
          simp only [Act.put, List.getElem_toArray, List.getElem_cons_zero, List.getElem_cons_succ, List.setIfInBounds_toArray, List.set_cons_zero, List.set_cons_succ]
          refine wpAnyH_take (i := 18) (v := ?_) rfl (by kernel_rfl) (by kernel_rfl) (by kernel_rfl) (fun _ _ _ h => h) (Or.inl ⟨by kernel_rfl, ?_⟩) hHeld ?_
          rotate_left
          · intro w' hSw; (try dsimp only at hSw); go_simp
            all_goals (with_reducible rfl)
          simp only [Act.put, List.getElem_toArray, List.getElem_cons_zero, List.getElem_cons_succ, List.setIfInBounds_toArray, List.set_cons_zero, List.set_cons_succ]
          refine wpAnyH_take (i := 19) (v := ?_) rfl (by kernel_rfl) (by kernel_rfl) (by kernel_rfl) (fun _ _ _ h => h) (Or.inl ⟨by kernel_rfl, ?_⟩) hHeld ?_
          rotate_left
          · intro w' hSw; (try dsimp only at hSw); go_simp
            all_goals (with_reducible rfl)
          simp only [Act.put, List.getElem_toArray, List.getElem_cons_zero, List.getElem_cons_succ, List.setIfInBounds_toArray, List.set_cons_zero, List.set_cons_succ]
          refine wpAnyH_take (i := 22) (v := ?_) rfl (by kernel_rfl) (by kernel_rfl) (by kernel_rfl) (fun _ _ _ h => h) (Or.inl ⟨by kernel_rfl, ?_⟩) hHeld ?_
          rotate_left
          · intro w' hSw; (try dsimp only at hSw); go_simp
            all_goals (with_reducible rfl)
          simp only [Act.put, List.getElem_toArray, List.getElem_cons_zero, List.getElem_cons_succ, List.setIfInBounds_toArray, List.set_cons_zero, List.set_cons_succ]
          refine wpAnyH_ready (rs := [20]) (by kernel_rfl) (by simp) ?_
          refine AllReadyH.cons (o := _) rfl (fun K hK => ?_) AllReadyH.nil
          go_simp
          refine (hv3.out _ hy3.out).mono ?_
          rintro e y4 ⟨s4, ba4, bn4, bc4, fa4, fn4, fc4, la4, ln4, lc4, rfl, hs⟩
          have hy4 := Lib.hid (hy3.out.tail hs)
          clear hs
          go_wp2_with fail
          refine hK.out _ _ ?_ (fun hHeld => ?_)
          · exact hcl.out _ hy4.out
          clear hK K
          refine wpAnyH_take (i := 21) (v := ?_) rfl (by kernel_rfl) (by kernel_rfl) (by kernel_rfl) (fun _ _ _ h => h) (Or.inl ⟨by kernel_rfl, ?_⟩) hHeld ?_
          rotate_left
          · intro w' hSw; (try dsimp only at hSw); go_simp
            all_goals (with_reducible rfl)
          simp only [Act.put, List.getElem_toArray, List.getElem_cons_zero, List.getElem_cons_succ, List.setIfInBounds_toArray, List.set_cons_zero, List.set_cons_succ]
          refine wpAnyH_take (i := 23) (v := ?_) rfl (by kernel_rfl) (by kernel_rfl) (by kernel_rfl) (fun _ _ _ h => h) (Or.inl ⟨by kernel_rfl, ?_⟩) hHeld ?_
          rotate_left
          · intro w' hSw; (try dsimp only at hSw); go_simp
            all_goals (with_reducible rfl)
          simp only [Act.put, List.getElem_toArray, List.getElem_cons_zero, List.getElem_cons_succ, List.setIfInBounds_toArray, List.set_cons_zero, List.set_cons_succ]
          refine wpAnyH_take (i := 24) (v := ?_) rfl (by kernel_rfl) (by kernel_rfl) (by kernel_rfl) (fun _ _ _ h => h) (Or.inl ⟨by kernel_rfl, ?_⟩) hHeld ?_
          rotate_left
          · intro w' hSw; (try dsimp only at hSw); go_simp
            all_goals (with_reducible rfl)
          simp only [Act.put, List.getElem_toArray, List.getElem_cons_zero, List.getElem_cons_succ, List.setIfInBounds_toArray, List.set_cons_zero, List.set_cons_succ]
          refine wpAnyH_take (i := 25) (v := ?_) rfl (by kernel_rfl) (by kernel_rfl) (by kernel_rfl) (fun _ _ _ h => h) (Or.inl ⟨by kernel_rfl, ?_⟩) hHeld ?_
          rotate_left
          · intro w' hSw; (try dsimp only at hSw); go_simp
            all_goals (with_reducible rfl)
          simp only [Act.put, List.getElem_toArray, List.getElem_cons_zero, List.getElem_cons_succ, List.setIfInBounds_toArray, List.set_cons_zero, List.set_cons_succ]
          refine wpAnyH_take (i := 26) (v := ?_) rfl (by kernel_rfl) (by kernel_rfl) (by kernel_rfl) (fun _ _ _ h => h) (Or.inl ⟨by kernel_rfl, ?_⟩) hHeld ?_
          rotate_left
          · intro w' hSw; (try dsimp only at hSw); go_simp
            all_goals (with_reducible rfl)
          simp only [Act.put, List.getElem_toArray, List.getElem_cons_zero, List.getElem_cons_succ, List.setIfInBounds_toArray, List.set_cons_zero, List.set_cons_succ]
          refine wpAnyH_take (i := 29) (v := ?_) rfl (by kernel_rfl) (by kernel_rfl) (by kernel_rfl) (fun _ _ _ h => h) (Or.inl ⟨by kernel_rfl, ?_⟩) hHeld ?_
          rotate_left
          · intro w' hSw; (try dsimp only at hSw); go_simp
            all_goals (with_reducible rfl)
          simp only [Act.put, List.getElem_toArray, List.getElem_cons_zero, List.getElem_cons_succ, List.setIfInBounds_toArray, List.set_cons_zero, List.set_cons_succ]
          refine wpAnyH_take (i := 30) (v := ?_) rfl (by kernel_rfl) (by kernel_rfl) (by kernel_rfl) (fun _ _ _ h => h) (Or.inl ⟨by kernel_rfl, ?_⟩) hHeld ?_
          rotate_left
          · intro w' hSw; (try dsimp only at hSw); go_simp
            all_goals (with_reducible rfl)
          simp only [Act.put, List.getElem_toArray, List.getElem_cons_zero, List.getElem_cons_succ, List.setIfInBounds_toArray, List.set_cons_zero, List.set_cons_succ]
          refine wpAnyH_take (i := 31) (v := ?_) rfl (by kernel_rfl) (by kernel_rfl) (by kernel_rfl) (fun _ _ _ h => h) (Or.inl ⟨by kernel_rfl, ?_⟩) hHeld ?_
          rotate_left
          · intro w' hSw; (try dsimp only at hSw); go_simp
            all_goals (with_reducible rfl)
          simp only [Act.put, List.getElem_toArray, List.getElem_cons_zero, List.getElem_cons_succ, List.setIfInBounds_toArray, List.set_cons_zero, List.set_cons_succ]
          refine wpAnyH_take (i := 32) (v := ?_) rfl (by kernel_rfl) (by kernel_rfl) (by kernel_rfl) (fun _ _ _ h => h) (Or.inl ⟨by kernel_rfl, ?_⟩) hHeld ?_
          rotate_left
          · intro w' hSw; (try dsimp only at hSw); go_simp
            all_goals (with_reducible rfl)
          simp only [Act.put, List.getElem_toArray, List.getElem_cons_zero, List.getElem_cons_succ, List.setIfInBounds_toArray, List.set_cons_zero, List.set_cons_succ]
          refine wpAnyH_ready (rs := [27]) (by kernel_rfl) (by simp) ?_
          refine AllReadyH.cons (o := _) rfl (fun K hK => ?_) AllReadyH.nil
          go_simp
          refine (hv4.out _ hy4.out).mono ?_
          rintro e y5 ⟨s5, ba5, bn5, bc5, fa5, fn5, fc5, la5, ln5, lc5, rfl, hs⟩
          have hy5 := Lib.hid (hy4.out.tail hs)
          clear hs
          go_wp2_with fail
          refine hK.out _ _ ?_ (fun hHeld => ?_)
          · exact hcl.out _ hy5.out
          clear hK K
          refine wpAnyH_take (i := 28) (v := ?_) rfl (by kernel_rfl) (by kernel_rfl) (by kernel_rfl) (fun _ _ _ h => h) (Or.inl ⟨by kernel_rfl, ?_⟩) hHeld ?_
          rotate_left
          · intro w' hSw; (try dsimp only at hSw); go_simp
            all_goals (with_reducible rfl)
          simp only [Act.put, List.getElem_toArray, List.getElem_cons_zero, List.getElem_cons_succ, List.setIfInBounds_toArray, List.set_cons_zero, List.set_cons_succ]
          refine wpAnyH_take (i := 33) (v := ?_) rfl (by kernel_rfl) (by kernel_rfl) (by kernel_rfl) (fun _ _ _ h => h) (Or.inl ⟨by kernel_rfl, ?_⟩) hHeld ?_
          rotate_left
          · intro w' hSw; (try dsimp only at hSw); go_simp
            all_goals (with_reducible rfl)
          simp only [Act.put, List.getElem_toArray, List.getElem_cons_zero, List.getElem_cons_succ, List.setIfInBounds_toArray, List.set_cons_zero, List.set_cons_succ]
          refine wpAnyH_take (i := 34) (v := ?_) rfl (by kernel_rfl) (by kernel_rfl) (by kernel_rfl) (fun _ _ _ h => h) (Or.inl ⟨by kernel_rfl, ?_⟩) hHeld ?_
          rotate_left
          · intro w' hSw; (try dsimp only at hSw); go_simp
            all_goals (with_reducible rfl)
          simp only [Act.put, List.getElem_toArray, List.getElem_cons_zero, List.getElem_cons_succ, List.setIfInBounds_toArray, List.set_cons_zero, List.set_cons_succ]
          refine wpAnyH_take (i := 35) (v := ?_) rfl (by kernel_rfl) (by kernel_rfl) (by kernel_rfl) (fun _ _ _ h => h) (Or.inl ⟨by kernel_rfl, ?_⟩) hHeld ?_
          rotate_left
          · intro w' hSw; (try dsimp only at hSw); go_simp
            all_goals (with_reducible rfl)
          simp only [Act.put, List.getElem_toArray, List.getElem_cons_zero, List.getElem_cons_succ, List.setIfInBounds_toArray, List.set_cons_zero, List.set_cons_succ]
          refine wpAnyH_take (i := 36) (v := ?_) rfl (by kernel_rfl) (by kernel_rfl) (by kernel_rfl) (fun _ _ _ h => h) (Or.inl ⟨by kernel_rfl, ?_⟩) hHeld ?_
          rotate_left
          · intro w' hSw; (try dsimp only at hSw); go_simp
            all_goals (with_reducible rfl)
          simp only [Act.put, List.getElem_toArray, List.getElem_cons_zero, List.getElem_cons_succ, List.setIfInBounds_toArray, List.set_cons_zero, List.set_cons_succ]
          refine wpAnyH_take (i := 39) (v := ?_) rfl (by kernel_rfl) (by kernel_rfl) (by kernel_rfl) (fun _ _ _ h => h) (Or.inl ⟨by kernel_rfl, ?_⟩) hHeld ?_
          rotate_left
          · intro w' hSw; (try dsimp only at hSw); go_simp
            all_goals (with_reducible rfl)
          simp only [Act.put, List.getElem_toArray, List.getElem_cons_zero, List.getElem_cons_succ, List.setIfInBounds_toArray, List.set_cons_zero, List.set_cons_succ]
          refine wpAnyH_take (i := 40) (v := ?_) rfl (by kernel_rfl) (by kernel_rfl) (by kernel_rfl) (fun _ _ _ h => h) (Or.inl ⟨by kernel_rfl, ?_⟩) hHeld ?_
          rotate_left
          · intro w' hSw; (try dsimp only at hSw); go_simp
            all_goals (with_reducible rfl)
          simp only [Act.put, List.getElem_toArray, List.getElem_cons_zero, List.getElem_cons_succ, List.setIfInBounds_toArray, List.set_cons_zero, List.set_cons_succ]
          refine wpAnyH_take (i := 41) (v := ?_) rfl (by kernel_rfl) (by kernel_rfl) (by kernel_rfl) (fun _ _ _ h => h) (Or.inl ⟨by kernel_rfl, ?_⟩) hHeld ?_
          rotate_left
          · intro w' hSw; (try dsimp only at hSw); go_simp
            all_goals (with_reducible rfl)
          simp only [Act.put, List.getElem_toArray, List.getElem_cons_zero, List.getElem_cons_succ, List.setIfInBounds_toArray, List.set_cons_zero, List.set_cons_succ]
          refine wpAnyH_take (i := 42) (v := ?_) rfl (by kernel_rfl) (by kernel_rfl) (by kernel_rfl) (fun _ _ _ h => h) (Or.inl ⟨by kernel_rfl, ?_⟩) hHeld ?_
          rotate_left
          · intro w' hSw; (try dsimp only at hSw); go_simp
            all_goals (with_reducible rfl)
          simp only [Act.put, List.getElem_toArray, List.getElem_cons_zero, List.getElem_cons_succ, List.setIfInBounds_toArray, List.set_cons_zero, List.set_cons_succ]
          refine wpAnyH_take (i := 43) (v := ?_) rfl (by kernel_rfl) (by kernel_rfl) (by kernel_rfl) (fun _ _ _ h => h) (Or.inl ⟨by kernel_rfl, ?_⟩) hHeld ?_
          rotate_left
          · intro w' hSw; (try dsimp only at hSw); go_simp
            all_goals (with_reducible rfl)
          simp only [Act.put, List.getElem_toArray, List.getElem_cons_zero, List.getElem_cons_succ, List.setIfInBounds_toArray, List.set_cons_zero, List.set_cons_succ]
          refine wpAnyH_take (i := 44) (v := ?_) rfl (by kernel_rfl) (by kernel_rfl) (by kernel_rfl) (fun _ _ _ h => h) (Or.inl ⟨by kernel_rfl, ?_⟩) hHeld ?_
          rotate_left
          · intro w' hSw; (try dsimp only at hSw); go_simp
            all_goals (with_reducible rfl)
          simp only [Act.put, List.getElem_toArray, List.getElem_cons_zero, List.getElem_cons_succ, List.setIfInBounds_toArray, List.set_cons_zero, List.set_cons_succ]
          refine wpAnyH_take (i := 45) (v := ?_) rfl (by kernel_rfl) (by kernel_rfl) (by kernel_rfl) (fun _ _ _ h => h) (Or.inl ⟨by kernel_rfl, ?_⟩) hHeld ?_
          rotate_left
          · intro w' hSw; (try dsimp only at hSw); go_simp
            all_goals (with_reducible rfl)
          simp only [Act.put, List.getElem_toArray, List.getElem_cons_zero, List.getElem_cons_succ, List.setIfInBounds_toArray, List.set_cons_zero, List.set_cons_succ]
          refine wpAnyH_ready (rs := [37]) (by kernel_rfl) (by simp) ?_
          refine AllReadyH.cons (o := _) rfl (fun K hK => ?_) AllReadyH.nil
          go_simp
          refine (hv5.out _ hy5.out).mono ?_
          rintro e y6 ⟨s6, ba6, bn6, bc6, fa6, fn6, fc6, la6, ln6, lc6, rfl, hs⟩
          have hy6 := Lib.hid (hy5.out.tail hs)
          clear hs
          go_wp2_with fail
          refine hK.out _ _ ?_ (fun hHeld => ?_)
          · exact hcl.out _ hy6.out
          clear hK K
          refine wpAnyH_take (i := 38) (v := ?_) rfl (by kernel_rfl) (by kernel_rfl) (by kernel_rfl) (fun _ _ _ h => h) (Or.inl ⟨by kernel_rfl, ?_⟩) hHeld ?_
          rotate_left
          · intro w' hSw; (try dsimp only at hSw); go_simp
            all_goals (with_reducible rfl)
          simp only [Act.put, List.getElem_toArray, List.getElem_cons_zero, List.getElem_cons_succ, List.setIfInBounds_toArray, List.set_cons_zero, List.set_cons_succ]
          refine wpAnyH_take (i := 46) (v := ?_) rfl (by kernel_rfl) (by kernel_rfl) (by kernel_rfl) (fun _ _ _ h => h) (Or.inl ⟨by kernel_rfl, ?_⟩) hHeld ?_
          rotate_left
          · intro w' hSw; (try dsimp only at hSw); go_simp
            all_goals (with_reducible rfl)
          simp only [Act.put, List.getElem_toArray, List.getElem_cons_zero, List.getElem_cons_succ, List.setIfInBounds_toArray, List.set_cons_zero, List.set_cons_succ]
          refine wpAnyH_take (i := 47) (v := ?_) rfl (by kernel_rfl) (by kernel_rfl) (by kernel_rfl) (fun _ _ _ h => h) (Or.inl ⟨by kernel_rfl, ?_⟩) hHeld ?_
          rotate_left
          · intro w' hSw; (try dsimp only at hSw); go_simp
            all_goals (with_reducible rfl)
          simp only [Act.put, List.getElem_toArray, List.getElem_cons_zero, List.getElem_cons_succ, List.setIfInBounds_toArray, List.set_cons_zero, List.set_cons_succ]
          refine wpAnyH_take (i := 48) (v := ?_) rfl (by kernel_rfl) (by kernel_rfl) (by kernel_rfl) (fun _ _ _ h => h) (Or.inl ⟨by kernel_rfl, ?_⟩) hHeld ?_
          rotate_left
          · intro w' hSw; (try dsimp only at hSw); go_simp
            all_goals (with_reducible rfl)
          simp only [Act.put, List.getElem_toArray, List.getElem_cons_zero, List.getElem_cons_succ, List.setIfInBounds_toArray, List.set_cons_zero, List.set_cons_succ]
          refine wpAnyH_take (i := 49) (v := ?_) rfl (by kernel_rfl) (by kernel_rfl) (by kernel_rfl) (fun _ _ _ h => h) (Or.inl ⟨by kernel_rfl, ?_⟩) hHeld ?_
          rotate_left
          · intro w' hSw; (try dsimp only at hSw); go_simp
            all_goals (with_reducible rfl)
          simp only [Act.put, List.getElem_toArray, List.getElem_cons_zero, List.getElem_cons_succ, List.setIfInBounds_toArray, List.set_cons_zero, List.set_cons_succ]
          refine wpAnyH_take (i := 52) (v := ?_) rfl (by kernel_rfl) (by kernel_rfl) (by kernel_rfl) (fun _ _ _ h => h) (Or.inl ⟨by kernel_rfl, ?_⟩) hHeld ?_
          rotate_left
          · intro w' hSw; (try dsimp only at hSw); go_simp
            all_goals (with_reducible rfl)
          simp only [Act.put, List.getElem_toArray, List.getElem_cons_zero, List.getElem_cons_succ, List.setIfInBounds_toArray, List.set_cons_zero, List.set_cons_succ]
          refine wpAnyH_ready (rs := [50]) (by kernel_rfl) (by simp) ?_
          refine AllReadyH.cons (o := _) rfl (fun K hK => ?_) AllReadyH.nil
          go_simp
          refine (hv6.out _ hy6.out).mono ?_
          rintro e y7 ⟨k, s7, ba7, bn7, bc7, fa7, fn7, fc7, la7, ln7, lc7, rfl, hs⟩
          have hy7 := Lib.hid (hy6.out.tail hs)
          clear hs
          go_wp2_with fail
          refine hK.out _ _ ?_ (fun hHeld => ?_)
          · exact hcl.out _ hy7.out
          clear hK K
          refine wpAnyH_take (i := 51) (v := ?_) rfl (by kernel_rfl) (by kernel_rfl) (by kernel_rfl) (fun _ _ _ h => h) (Or.inl ⟨by kernel_rfl, ?_⟩) hHeld ?_
          rotate_left
          · intro w' hSw; (try dsimp only at hSw); go_simp
            all_goals (with_reducible rfl)
          simp only [Act.put, List.getElem_toArray, List.getElem_cons_zero, List.getElem_cons_succ, List.setIfInBounds_toArray, List.set_cons_zero, List.set_cons_succ]
          refine wpAnyH_take (i := 53) (v := ?_) rfl (by kernel_rfl) (by kernel_rfl) (by kernel_rfl) (fun _ _ _ h => h) (Or.inl ⟨by kernel_rfl, ?_⟩) hHeld ?_
          rotate_left
          · intro w' hSw; (try dsimp only at hSw); go_simp
            all_goals (with_reducible rfl)
          simp only [Act.put, List.getElem_toArray, List.getElem_cons_zero, List.getElem_cons_succ, List.setIfInBounds_toArray, List.set_cons_zero, List.set_cons_succ]
          refine wpAnyH_take (i := 54) (v := ?_) rfl (by kernel_rfl) (by kernel_rfl) (by kernel_rfl) (fun _ _ _ h => h) (Or.inl ⟨by kernel_rfl, ?_⟩) hHeld ?_
          rotate_left
          · intro w' hSw; (try dsimp only at hSw); go_simp
            all_goals (with_reducible rfl)
          simp only [Act.put, List.getElem_toArray, List.getElem_cons_zero, List.getElem_cons_succ, List.setIfInBounds_toArray, List.set_cons_zero, List.set_cons_succ]
          refine wpAnyH_take (i := 55) (v := ?_) rfl (by kernel_rfl) (by kernel_rfl) (by kernel_rfl) (fun _ _ _ h => h) (Or.inl ⟨by kernel_rfl, ?_⟩) hHeld ?_
          rotate_left
          · intro w' hSw; (try dsimp only at hSw); go_simp
            all_goals (with_reducible rfl)
          simp only [Act.put, List.getElem_toArray, List.getElem_cons_zero, List.getElem_cons_succ, List.setIfInBounds_toArray, List.set_cons_zero, List.set_cons_succ]
          refine wpAnyH_done (by kernel_rfl) ?_ _
          go_wp2_with fail
          go_ret
          exact ⟨rfl, hsqH.out.tail hy7.out⟩
end Go.Proofs.YtembpajlllnncaaDoor
