/- bson: the weigher weighs a value. -/
import Derived.Test.YtbkmnhogfegmcaaDoorBsS2a
set_option linter.unusedVariables false
set_option linter.unusedSimpArgs false
namespace Go.Proofs.YtbkmnhogfegmcaaDoor
open Go.RowKit

set_option maxRecDepth 100000 in
set_option maxHeartbeats 4000000 in
theorem weigh_value (fuel : Nat) (hF : WghF fuel) : WghV fuel := by
  intro P x cs R s deep w hfu hd hx hR hs ht hPR
  obtain ⟨bv, fa, fc, la, lc, hcs, hb, ⟨hfc, hlc, hfn, hln⟩, ⟨hk0, hk1, hn0, hn1⟩, ⟨hs2, hb2, hf2, hl2⟩, hf, hl⟩ := hx.cells
  obtain ⟨ba, bc, rfl⟩ := hb.shape
  cases x with
  | mk k n st b f it =>
    simp only [Val.kind, Val.num, Val.s, Val.b, Val.f, Val.l] at *
    subst hcs
    obtain ⟨W1, hW1⟩ : ∃ W1, W1 = w.alloc (.cells #[.int .i64 k, .int .i64 n, .string (strOf st), .slice ba b.length bc, .slice fa f.length fc, .slice la it.length lc] 27) := ⟨_, rfl⟩
    have hW : w.grownBy W1 none := by rw [hW1]; exact World.grownBy_alloc w _ none
    have hR1 := Lib.hid (hR.keep hW)
    have hx1 := hx.keep (P2 := P) (fun _ h => h) (fun k hP hk => hW.block k hk (by simp))
    have hS1 : Step [] id id w W1 := .grown hW (fun _ h => by cases h)
    have hS1H := Lib.hid hS1
    have ht1 := Lib.hid (ht.keep hS1 (fun _ h => by cases h))
    by_cases hc : codeOf k = 0
    · have hok : ¬ (okV deep (.mk k n st b f it) = true ∧ s + (encV (.mk k n st b f it)).length ≤ 65536) := fun h => by
        have := h.1
        rw [okV] at this
        simp only [Bool.and_eq_true, decide_eq_true_eq] at this
        exact this.1.2 hc
      have hokH := Lib.hid hok
      have hc2 : ((codeOf k).toNat : Int) = 0 := by rw [hc]; rfl
      clear hok hc hx1 hS1 hW hx hR ht hf hl hb
      go_enter Tryd.func66, Tryd.ntmps66
      go_wp2_with (first | (go_at_call 61; refine (bs_code k _).mono ?_; rintro e w' ⟨rfl, rfl⟩; rw [hc2]) | (go_at_call 25; refine (must_bad 1 _).mono ?_; rintro e w' ⟨rfl, rfl⟩))
      rw [← hW1]
      exact ⟨rfl, hS1H.out.mono (fun _ h => by cases h), .inr ⟨hokH.out, rfl, s, hR1.out⟩⟩
    obtain ⟨C, hC⟩ : ∃ C, ((codeOf k).toNat : Int) = C := ⟨_, rfl⟩
    have hCe := Lib.hid hC
    have hC0 : ¬ C = 0 := fun e => hc (by
      rw [← hC] at e
      exact UInt8.toNat_inj.1 (by simpa using e))
    have hCb := Lib.hid (show (C != 0) = true by rw [bne_iff_ne]; exact hC0)
    have hbox := Lib.hid (show W1.heap[w.heap.size]? = some (.cells #[.int .i64 k, .int .i64 n, .string (strOf st), .slice ba b.length bc, .slice fa f.length fc, .slice la it.length lc] 27 (0, 0)) by rw [hW1]; exact heap_alloc_new w _)
    have hx1H := Lib.hid hx1
    have hfH := Lib.hid hf
    have hlH := Lib.hid hl
    have hRo := Lib.hid hR
    have hxo := Lib.hid hx
    have hto := Lib.hid ht
    clear hC hS1 hW hx hR hx1 ht hf hl hb
    cases hpl : (Val.mk k n st b f it).plain
    · have hok : ¬ (okV deep (.mk k n st b f it) = true ∧ s + (encV (.mk k n st b f it)).length ≤ 65536) := fun h => by
        have := h.1
        rw [okV, hpl] at this
        simp at this
      have hokH := Lib.hid hok
      have hp := Lib.hid hpl
      clear hok hpl
      go_enter Tryd.func66, Tryd.ntmps66
      go_wp2_with (first | (go_at_call 61; refine (bs_code _ _).mono ?_; rintro e w' ⟨rfl, rfl⟩; rw [hCe.out]) | (go_at_call 30; rw [← hW1]; refine (bs_plain _ _ W1 hx1H.out).mono ?_; rintro e w2 ⟨rfl, hg2⟩; rw [hp.out]; have hbk := (hg2.block _ (lt_of_block hbox.out) (by simp)).trans hbox.out; have p0 := cell_blk hbk (i := 0) rfl; have p1 := cell_blk hbk (i := 1) rfl; have p2 := cell_blk hbk (i := 2) rfl; have p3 := cell_blk hbk (i := 3) rfl; have p4 := cell_blk hbk (i := 4) rfl; have p5 := cell_blk hbk (i := 5) rfl; have hg2H := Lib.hid hg2; clear hg2 hbk) | (go_at_call 25; refine (must_bad 1 _).mono ?_; rintro e w' ⟨rfl, rfl⟩))
      exact ⟨rfl, hS1H.out.plus hg2H.out, .inr ⟨hokH.out, rfl, s, hR1.out.keep hg2H.out⟩⟩
    have hp := Lib.hid hpl
    by_cases k5 : k = 5
    · subst k5; exact weigh_text hxo.out hRo.out hs hto.out hPR hpl hd
    by_cases k6 : k = 6
    · subst k6; exact weigh_doc fuel hF hxo.out hRo.out hs hto.out hPR hpl hd hfu
    by_cases k7 : k = 7
    · subst k7; exact weigh_list fuel hF hxo.out hRo.out hs hto.out hPR hpl hd hfu
    by_cases k8 : k = 8
    · subst k8; exact weigh_bytes hxo.out hRo.out hs hto.out hPR hpl hd
    have hokv : okV deep (.mk k n st b f it) = (if k = 3 then decide (-2147483648 ≤ n ∧ n ≤ 2147483647) else if k = 4 ∨ k = 11 then decide (-9223372036854775808 ≤ n ∧ n ≤ 9223372036854775807) else if k = 10 then decide (n = 0 ∨ n = 1) else if k = 5 then utf8 st
     else if k = 6 then decide (deep + 1 ≤ 32) && okFs (deep + 1) [] f
     else if k = 7 then decide (deep + 1 ≤ 32) && okLs (deep + 1) it
     else if k = 9 then decide (b.length = 12) else true) := by
      rw [okV, hpl]; simp [hc]
    have hokvH := Lib.hid hokv
    clear hpl hokv
    obtain ⟨hkk, -⟩ := codeOf_known hc
    obtain ⟨OK, hOK⟩ : ∃ OK : Prop, OK = (okV deep (.mk k n st b f it) = true ∧ s + (encV (.mk k n st b f it)).length ≤ 65536) := ⟨_, rfl⟩
    obtain ⟨M, hM⟩ : ∃ M, M = s + (encV (.mk k n st b f it)).length := ⟨_, rfl⟩
    rw [← hOK, ← hM]
    rw [hokvH.out, ← hM] at hOK
    have hOKH := Lib.hid hOK
    have hMH := Lib.hid hM
    clear hOK hM
    rcases hkk with rfl | rfl | rfl | rfl | rfl | rfl | rfl | rfl | rfl | rfl | rfl | rfl
    · -- 1
      have h0 : M = s := by rw [hMH.out]; simp [encV]
      have h1 : OK := by rw [hOKH.out, h0]; simp [hs]
      have h1H := Lib.hid h1
      subst h0
      clear h1
      go_enter Tryd.func66, Tryd.ntmps66
      go_wp2_with (first | (go_at_call 61; refine (bs_code _ _).mono ?_; rintro e w' ⟨rfl, rfl⟩; rw [hCe.out]) | (go_at_call 30; rw [← hW1]; refine (bs_plain _ _ W1 hx1H.out).mono ?_; rintro e w2 ⟨rfl, hg2⟩; rw [hp.out]; have hbk := (hg2.block _ (lt_of_block hbox.out) (by simp)).trans hbox.out; have p0 := cell_blk hbk (i := 0) rfl; have p1 := cell_blk hbk (i := 1) rfl; have p2 := cell_blk hbk (i := 2) rfl; have p3 := cell_blk hbk (i := 3) rfl; have p4 := cell_blk hbk (i := 4) rfl; have p5 := cell_blk hbk (i := 5) rfl; have hg2H := Lib.hid hg2; clear hg2 hbk) | (go_at_call 25; (try rw [hCb.out]); refine (must_ok 1 _).mono ?_; rintro e w' ⟨rfl, rfl⟩))
      go_end0
      exact ⟨hS1H.out.plus hg2H.out, .inl ⟨h1H.out, rfl, hR1.out.keep hg2H.out⟩⟩
    · -- 2
      have h0 : M = s := by rw [hMH.out]; simp [encV]
      have h1 : OK := by rw [hOKH.out, h0]; simp [hs]
      have h1H := Lib.hid h1
      subst h0
      clear h1
      go_enter Tryd.func66, Tryd.ntmps66
      go_wp2_with (first | (go_at_call 61; refine (bs_code _ _).mono ?_; rintro e w' ⟨rfl, rfl⟩; rw [hCe.out]) | (go_at_call 30; rw [← hW1]; refine (bs_plain _ _ W1 hx1H.out).mono ?_; rintro e w2 ⟨rfl, hg2⟩; rw [hp.out]; have hbk := (hg2.block _ (lt_of_block hbox.out) (by simp)).trans hbox.out; have p0 := cell_blk hbk (i := 0) rfl; have p1 := cell_blk hbk (i := 1) rfl; have p2 := cell_blk hbk (i := 2) rfl; have p3 := cell_blk hbk (i := 3) rfl; have p4 := cell_blk hbk (i := 4) rfl; have p5 := cell_blk hbk (i := 5) rfl; have hg2H := Lib.hid hg2; clear hg2 hbk) | (go_at_call 25; (try rw [hCb.out]); refine (must_ok 1 _).mono ?_; rintro e w' ⟨rfl, rfl⟩))
      go_end0
      exact ⟨hS1H.out.plus hg2H.out, .inl ⟨h1H.out, rfl, hR1.out.keep hg2H.out⟩⟩
    · -- 3
      have h0 : M = s + 4 := by rw [hMH.out]; simp [encV, layI_length]
      by_cases hcd : -2147483648 ≤ n ∧ n ≤ 2147483647
      · by_cases hsum : s + 4 ≤ 65536
        · have h1 : OK := by rw [hOKH.out, h0]; exact ⟨by simpa using hcd, hsum⟩
          have h1H := Lib.hid h1
          have h0H := Lib.hid h0
          clear h1 h0
          have hw := Lib.hid (show (n == wrap64 (wrap32 n)) = true by rw [beq_iff_eq]; unfold wrap64 wrap32; omega)
          go_enter Tryd.func66, Tryd.ntmps66
          go_wp2_with (first | (go_at_call 61; refine (bs_code _ _).mono ?_; rintro e w' ⟨rfl, rfl⟩; rw [hCe.out]) | (go_at_call 30; rw [← hW1]; refine (bs_plain _ _ W1 hx1H.out).mono ?_; rintro e w2 ⟨rfl, hg2⟩; rw [hp.out]; have hbk := (hg2.block _ (lt_of_block hbox.out) (by simp)).trans hbox.out; have p0 := cell_blk hbk (i := 0) rfl; have p1 := cell_blk hbk (i := 1) rfl; have p2 := cell_blk hbk (i := 2) rfl; have p3 := cell_blk hbk (i := 3) rfl; have p4 := cell_blk hbk (i := 4) rfl; have p5 := cell_blk hbk (i := 5) rfl; have hg2H := Lib.hid hg2; clear hg2 hbk) | (go_at_call 25; (try rw [hCb.out]); (try rw [hw.out]); refine (must_ok 1 _).mono ?_; rintro e w' ⟨rfl, rfl⟩) | (go_at_call 63; refine (add_ok (n := 4) (hR1.out.keep hg2H.out) hs hsum).mono ?_; rintro e w3 ⟨rfl, hr3, hs3⟩; have hr3H := Lib.hid hr3; have hs3H := Lib.hid hs3; clear hr3 hs3))
          go_end0
          exact ⟨(hS1H.out.plus hg2H.out).tail hs3H.out, .inl ⟨h1H.out, rfl, by rw [h0H.out]; exact hr3H.out⟩⟩
        · have h1 : ¬ OK := by rw [hOKH.out, h0]; exact fun h => hsum h.2
          have h1H := Lib.hid h1
          clear h1 h0
          have hw := Lib.hid (show (n == wrap64 (wrap32 n)) = true by rw [beq_iff_eq]; unfold wrap64 wrap32; omega)
          go_enter Tryd.func66, Tryd.ntmps66
          go_wp2_with (first | (go_at_call 61; refine (bs_code _ _).mono ?_; rintro e w' ⟨rfl, rfl⟩; rw [hCe.out]) | (go_at_call 30; rw [← hW1]; refine (bs_plain _ _ W1 hx1H.out).mono ?_; rintro e w2 ⟨rfl, hg2⟩; rw [hp.out]; have hbk := (hg2.block _ (lt_of_block hbox.out) (by simp)).trans hbox.out; have p0 := cell_blk hbk (i := 0) rfl; have p1 := cell_blk hbk (i := 1) rfl; have p2 := cell_blk hbk (i := 2) rfl; have p3 := cell_blk hbk (i := 3) rfl; have p4 := cell_blk hbk (i := 4) rfl; have p5 := cell_blk hbk (i := 5) rfl; have hg2H := Lib.hid hg2; clear hg2 hbk) | (go_at_call 25; (try rw [hCb.out]); (try rw [hw.out]); refine (must_ok 1 _).mono ?_; rintro e w' ⟨rfl, rfl⟩) | (go_at_call 63; refine (add_bad (n := 4) (hR1.out.keep hg2H.out) hs hsum (by omega)).mono ?_; rintro e w3 ⟨rfl, rfl⟩))
          exact ⟨rfl, hS1H.out.plus hg2H.out, .inr ⟨h1H.out, rfl, s, hR1.out.keep hg2H.out⟩⟩
      · have h1 : ¬ OK := by rw [hOKH.out, h0]; exact fun h => hcd (by have := h.1; simpa using this)
        have h1H := Lib.hid h1
        clear h1 h0
        have hw := Lib.hid (show (n == wrap64 (wrap32 n)) = false by rw [beq_eq_false_iff_ne]; unfold wrap64 wrap32; omega)
        go_enter Tryd.func66, Tryd.ntmps66
        go_wp2_with (first | (go_at_call 61; refine (bs_code _ _).mono ?_; rintro e w' ⟨rfl, rfl⟩; rw [hCe.out]) | (go_at_call 30; rw [← hW1]; refine (bs_plain _ _ W1 hx1H.out).mono ?_; rintro e w2 ⟨rfl, hg2⟩; rw [hp.out]; have hbk := (hg2.block _ (lt_of_block hbox.out) (by simp)).trans hbox.out; have p0 := cell_blk hbk (i := 0) rfl; have p1 := cell_blk hbk (i := 1) rfl; have p2 := cell_blk hbk (i := 2) rfl; have p3 := cell_blk hbk (i := 3) rfl; have p4 := cell_blk hbk (i := 4) rfl; have p5 := cell_blk hbk (i := 5) rfl; have hg2H := Lib.hid hg2; clear hg2 hbk) | (go_at_call 25; rw [hCb.out]; refine (must_ok 1 _).mono ?_; rintro e w' ⟨rfl, rfl⟩) | (go_at_call 25; rw [hw.out]; refine (must_bad 1 _).mono ?_; rintro e w' ⟨rfl, rfl⟩))
        exact ⟨rfl, hS1H.out.plus hg2H.out, .inr ⟨h1H.out, rfl, s, hR1.out.keep hg2H.out⟩⟩
    · -- 4
      have h0 : M = s + 8 := by rw [hMH.out]; simp [encV, layI_length]
      by_cases hsum : s + 8 ≤ 65536
      · have h1 : OK := by rw [hOKH.out, h0]; exact ⟨by simp [hn0, hn1], hsum⟩
        have h1H := Lib.hid h1
        subst h0
        clear h1
        go_enter Tryd.func66, Tryd.ntmps66
        go_wp2_with (first | (go_at_call 61; refine (bs_code _ _).mono ?_; rintro e w' ⟨rfl, rfl⟩; rw [hCe.out]) | (go_at_call 30; rw [← hW1]; refine (bs_plain _ _ W1 hx1H.out).mono ?_; rintro e w2 ⟨rfl, hg2⟩; rw [hp.out]; have hbk := (hg2.block _ (lt_of_block hbox.out) (by simp)).trans hbox.out; have p0 := cell_blk hbk (i := 0) rfl; have p1 := cell_blk hbk (i := 1) rfl; have p2 := cell_blk hbk (i := 2) rfl; have p3 := cell_blk hbk (i := 3) rfl; have p4 := cell_blk hbk (i := 4) rfl; have p5 := cell_blk hbk (i := 5) rfl; have hg2H := Lib.hid hg2; clear hg2 hbk) | (go_at_call 25; (try rw [hCb.out]); refine (must_ok 1 _).mono ?_; rintro e w' ⟨rfl, rfl⟩) | (go_at_call 63; refine (add_ok (n := 8) (hR1.out.keep hg2H.out) hs hsum).mono ?_; rintro e w3 ⟨rfl, hr3, hs3⟩; have hr3H := Lib.hid hr3; have hs3H := Lib.hid hs3; clear hr3 hs3))
        go_end0
        exact ⟨(hS1H.out.plus hg2H.out).tail hs3H.out, .inl ⟨h1H.out, rfl, hr3H.out⟩⟩
      · have h1 : ¬ OK := by rw [hOKH.out, h0]; exact fun h => hsum h.2
        have h1H := Lib.hid h1
        subst h0
        clear h1
        go_enter Tryd.func66, Tryd.ntmps66
        go_wp2_with (first | (go_at_call 61; refine (bs_code _ _).mono ?_; rintro e w' ⟨rfl, rfl⟩; rw [hCe.out]) | (go_at_call 30; rw [← hW1]; refine (bs_plain _ _ W1 hx1H.out).mono ?_; rintro e w2 ⟨rfl, hg2⟩; rw [hp.out]; have hbk := (hg2.block _ (lt_of_block hbox.out) (by simp)).trans hbox.out; have p0 := cell_blk hbk (i := 0) rfl; have p1 := cell_blk hbk (i := 1) rfl; have p2 := cell_blk hbk (i := 2) rfl; have p3 := cell_blk hbk (i := 3) rfl; have p4 := cell_blk hbk (i := 4) rfl; have p5 := cell_blk hbk (i := 5) rfl; have hg2H := Lib.hid hg2; clear hg2 hbk) | (go_at_call 25; (try rw [hCb.out]); refine (must_ok 1 _).mono ?_; rintro e w' ⟨rfl, rfl⟩) | (go_at_call 63; refine (add_bad (n := 8) (hR1.out.keep hg2H.out) hs hsum (by omega)).mono ?_; rintro e w3 ⟨rfl, rfl⟩))
        exact ⟨rfl, hS1H.out.plus hg2H.out, .inr ⟨h1H.out, rfl, s, hR1.out.keep hg2H.out⟩⟩
    · exact absurd rfl k5
    · exact absurd rfl k6
    · exact absurd rfl k7
    · exact absurd rfl k8
    · -- 9
      have h00 : M = s + b.length := by rw [hMH.out]; simp [encV]
      by_cases hcd : b.length = 12
      · have h0 : M = s + 12 := by rw [h00, hcd]
        by_cases hsum : s + 12 ≤ 65536
        · have h1 : OK := by rw [hOKH.out, h0]; exact ⟨by simpa using hcd, hsum⟩
          have h1H := Lib.hid h1
          have h0H := Lib.hid h0
          clear h1 h0 h00
          have hw := Lib.hid (show ((b.length : Int) == 12) = true by rw [beq_iff_eq]; omega)
          clear hcd
          go_enter Tryd.func66, Tryd.ntmps66
          go_wp2_with (first | (go_at_call 61; refine (bs_code _ _).mono ?_; rintro e w' ⟨rfl, rfl⟩; rw [hCe.out]) | (go_at_call 30; rw [← hW1]; refine (bs_plain _ _ W1 hx1H.out).mono ?_; rintro e w2 ⟨rfl, hg2⟩; rw [hp.out]; have hbk := (hg2.block _ (lt_of_block hbox.out) (by simp)).trans hbox.out; have p0 := cell_blk hbk (i := 0) rfl; have p1 := cell_blk hbk (i := 1) rfl; have p2 := cell_blk hbk (i := 2) rfl; have p3 := cell_blk hbk (i := 3) rfl; have p4 := cell_blk hbk (i := 4) rfl; have p5 := cell_blk hbk (i := 5) rfl; have hg2H := Lib.hid hg2; clear hg2 hbk) | (go_at_call 25; (try rw [hCb.out]); (try rw [hw.out]); refine (must_ok 1 _).mono ?_; rintro e w' ⟨rfl, rfl⟩) | (go_at_call 63; refine (add_ok (n := 12) (hR1.out.keep hg2H.out) hs hsum).mono ?_; rintro e w3 ⟨rfl, hr3, hs3⟩; have hr3H := Lib.hid hr3; have hs3H := Lib.hid hs3; clear hr3 hs3))
          go_end0
          exact ⟨(hS1H.out.plus hg2H.out).tail hs3H.out, .inl ⟨h1H.out, rfl, by rw [h0H.out]; exact hr3H.out⟩⟩
        · have h1 : ¬ OK := by rw [hOKH.out, h0]; exact fun h => hsum h.2
          have h1H := Lib.hid h1
          clear h1 h0 h00
          have hw := Lib.hid (show ((b.length : Int) == 12) = true by rw [beq_iff_eq]; omega)
          clear hcd
          go_enter Tryd.func66, Tryd.ntmps66
          go_wp2_with (first | (go_at_call 61; refine (bs_code _ _).mono ?_; rintro e w' ⟨rfl, rfl⟩; rw [hCe.out]) | (go_at_call 30; rw [← hW1]; refine (bs_plain _ _ W1 hx1H.out).mono ?_; rintro e w2 ⟨rfl, hg2⟩; rw [hp.out]; have hbk := (hg2.block _ (lt_of_block hbox.out) (by simp)).trans hbox.out; have p0 := cell_blk hbk (i := 0) rfl; have p1 := cell_blk hbk (i := 1) rfl; have p2 := cell_blk hbk (i := 2) rfl; have p3 := cell_blk hbk (i := 3) rfl; have p4 := cell_blk hbk (i := 4) rfl; have p5 := cell_blk hbk (i := 5) rfl; have hg2H := Lib.hid hg2; clear hg2 hbk) | (go_at_call 25; (try rw [hCb.out]); (try rw [hw.out]); refine (must_ok 1 _).mono ?_; rintro e w' ⟨rfl, rfl⟩) | (go_at_call 63; refine (add_bad (n := 12) (hR1.out.keep hg2H.out) hs hsum (by omega)).mono ?_; rintro e w3 ⟨rfl, rfl⟩))
          exact ⟨rfl, hS1H.out.plus hg2H.out, .inr ⟨h1H.out, rfl, s, hR1.out.keep hg2H.out⟩⟩
      · have h1 : ¬ OK := by rw [hOKH.out]; exact fun h => hcd (by have := h.1; simpa using this)
        have h1H := Lib.hid h1
        clear h1 h00
        have hw := Lib.hid (show ((b.length : Int) == 12) = false by rw [beq_eq_false_iff_ne]; omega)
        clear hcd
        go_enter Tryd.func66, Tryd.ntmps66
        go_wp2_with (first | (go_at_call 61; refine (bs_code _ _).mono ?_; rintro e w' ⟨rfl, rfl⟩; rw [hCe.out]) | (go_at_call 30; rw [← hW1]; refine (bs_plain _ _ W1 hx1H.out).mono ?_; rintro e w2 ⟨rfl, hg2⟩; rw [hp.out]; have hbk := (hg2.block _ (lt_of_block hbox.out) (by simp)).trans hbox.out; have p0 := cell_blk hbk (i := 0) rfl; have p1 := cell_blk hbk (i := 1) rfl; have p2 := cell_blk hbk (i := 2) rfl; have p3 := cell_blk hbk (i := 3) rfl; have p4 := cell_blk hbk (i := 4) rfl; have p5 := cell_blk hbk (i := 5) rfl; have hg2H := Lib.hid hg2; clear hg2 hbk) | (go_at_call 25; rw [hCb.out]; refine (must_ok 1 _).mono ?_; rintro e w' ⟨rfl, rfl⟩) | (go_at_call 25; rw [hw.out]; refine (must_bad 1 _).mono ?_; rintro e w' ⟨rfl, rfl⟩))
        exact ⟨rfl, hS1H.out.plus hg2H.out, .inr ⟨h1H.out, rfl, s, hR1.out.keep hg2H.out⟩⟩
    · -- 10
      have h0 : M = s + 1 := by rw [hMH.out]; simp [encV, layI_length]
      by_cases hz : n = 0
      · subst hz
        by_cases hsum : s + 1 ≤ 65536
        · have h1 : OK := by rw [hOKH.out, h0]; exact ⟨by simp, hsum⟩
          have h1H := Lib.hid h1
          subst h0
          clear h1
          go_enter Tryd.func66, Tryd.ntmps66
          go_wp2_with (first | (go_at_call 61; refine (bs_code _ _).mono ?_; rintro e w' ⟨rfl, rfl⟩; rw [hCe.out]) | (go_at_call 30; rw [← hW1]; refine (bs_plain _ _ W1 hx1H.out).mono ?_; rintro e w2 ⟨rfl, hg2⟩; rw [hp.out]; have hbk := (hg2.block _ (lt_of_block hbox.out) (by simp)).trans hbox.out; have p0 := cell_blk hbk (i := 0) rfl; have p1 := cell_blk hbk (i := 1) rfl; have p2 := cell_blk hbk (i := 2) rfl; have p3 := cell_blk hbk (i := 3) rfl; have p4 := cell_blk hbk (i := 4) rfl; have p5 := cell_blk hbk (i := 5) rfl; have hg2H := Lib.hid hg2; clear hg2 hbk) | (go_at_call 25; (try rw [hCb.out]); refine (must_ok 1 _).mono ?_; rintro e w' ⟨rfl, rfl⟩) | (go_at_call 63; refine (add_ok (n := 1) (hR1.out.keep hg2H.out) hs hsum).mono ?_; rintro e w3 ⟨rfl, hr3, hs3⟩; have hr3H := Lib.hid hr3; have hs3H := Lib.hid hs3; clear hr3 hs3))
          go_end0
          exact ⟨(hS1H.out.plus hg2H.out).tail hs3H.out, .inl ⟨h1H.out, rfl, hr3H.out⟩⟩
        · have h1 : ¬ OK := by rw [hOKH.out, h0]; exact fun h => hsum h.2
          have h1H := Lib.hid h1
          subst h0
          clear h1
          go_enter Tryd.func66, Tryd.ntmps66
          go_wp2_with (first | (go_at_call 61; refine (bs_code _ _).mono ?_; rintro e w' ⟨rfl, rfl⟩; rw [hCe.out]) | (go_at_call 30; rw [← hW1]; refine (bs_plain _ _ W1 hx1H.out).mono ?_; rintro e w2 ⟨rfl, hg2⟩; rw [hp.out]; have hbk := (hg2.block _ (lt_of_block hbox.out) (by simp)).trans hbox.out; have p0 := cell_blk hbk (i := 0) rfl; have p1 := cell_blk hbk (i := 1) rfl; have p2 := cell_blk hbk (i := 2) rfl; have p3 := cell_blk hbk (i := 3) rfl; have p4 := cell_blk hbk (i := 4) rfl; have p5 := cell_blk hbk (i := 5) rfl; have hg2H := Lib.hid hg2; clear hg2 hbk) | (go_at_call 25; (try rw [hCb.out]); refine (must_ok 1 _).mono ?_; rintro e w' ⟨rfl, rfl⟩) | (go_at_call 63; refine (add_bad (n := 1) (hR1.out.keep hg2H.out) hs hsum (by omega)).mono ?_; rintro e w3 ⟨rfl, rfl⟩))
          exact ⟨rfl, hS1H.out.plus hg2H.out, .inr ⟨h1H.out, rfl, s, hR1.out.keep hg2H.out⟩⟩
      by_cases hz1 : n = 1
      · subst hz1
        by_cases hsum : s + 1 ≤ 65536
        · have h1 : OK := by rw [hOKH.out, h0]; exact ⟨by simp, hsum⟩
          have h1H := Lib.hid h1
          subst h0
          clear h1
          go_enter Tryd.func66, Tryd.ntmps66
          go_wp2_with (first | (go_at_call 61; refine (bs_code _ _).mono ?_; rintro e w' ⟨rfl, rfl⟩; rw [hCe.out]) | (go_at_call 30; rw [← hW1]; refine (bs_plain _ _ W1 hx1H.out).mono ?_; rintro e w2 ⟨rfl, hg2⟩; rw [hp.out]; have hbk := (hg2.block _ (lt_of_block hbox.out) (by simp)).trans hbox.out; have p0 := cell_blk hbk (i := 0) rfl; have p1 := cell_blk hbk (i := 1) rfl; have p2 := cell_blk hbk (i := 2) rfl; have p3 := cell_blk hbk (i := 3) rfl; have p4 := cell_blk hbk (i := 4) rfl; have p5 := cell_blk hbk (i := 5) rfl; have hg2H := Lib.hid hg2; clear hg2 hbk) | (go_at_call 25; (try rw [hCb.out]); refine (must_ok 1 _).mono ?_; rintro e w' ⟨rfl, rfl⟩) | (go_at_call 63; refine (add_ok (n := 1) (hR1.out.keep hg2H.out) hs hsum).mono ?_; rintro e w3 ⟨rfl, hr3, hs3⟩; have hr3H := Lib.hid hr3; have hs3H := Lib.hid hs3; clear hr3 hs3))
          go_end0
          exact ⟨(hS1H.out.plus hg2H.out).tail hs3H.out, .inl ⟨h1H.out, rfl, hr3H.out⟩⟩
        · have h1 : ¬ OK := by rw [hOKH.out, h0]; exact fun h => hsum h.2
          have h1H := Lib.hid h1
          subst h0
          clear h1
          go_enter Tryd.func66, Tryd.ntmps66
          go_wp2_with (first | (go_at_call 61; refine (bs_code _ _).mono ?_; rintro e w' ⟨rfl, rfl⟩; rw [hCe.out]) | (go_at_call 30; rw [← hW1]; refine (bs_plain _ _ W1 hx1H.out).mono ?_; rintro e w2 ⟨rfl, hg2⟩; rw [hp.out]; have hbk := (hg2.block _ (lt_of_block hbox.out) (by simp)).trans hbox.out; have p0 := cell_blk hbk (i := 0) rfl; have p1 := cell_blk hbk (i := 1) rfl; have p2 := cell_blk hbk (i := 2) rfl; have p3 := cell_blk hbk (i := 3) rfl; have p4 := cell_blk hbk (i := 4) rfl; have p5 := cell_blk hbk (i := 5) rfl; have hg2H := Lib.hid hg2; clear hg2 hbk) | (go_at_call 25; (try rw [hCb.out]); refine (must_ok 1 _).mono ?_; rintro e w' ⟨rfl, rfl⟩) | (go_at_call 63; refine (add_bad (n := 1) (hR1.out.keep hg2H.out) hs hsum (by omega)).mono ?_; rintro e w3 ⟨rfl, rfl⟩))
          exact ⟨rfl, hS1H.out.plus hg2H.out, .inr ⟨h1H.out, rfl, s, hR1.out.keep hg2H.out⟩⟩
      have h1 : ¬ OK := by rw [hOKH.out]; exact fun h => by have := h.1; simp [hz, hz1] at this
      have h1H := Lib.hid h1
      clear h1 h0
      have hw := Lib.hid (show (n == 0 || n == 1) = false by simp [hz, hz1])
      go_enter Tryd.func66, Tryd.ntmps66
      go_wp2_with (first | (go_at_call 61; refine (bs_code _ _).mono ?_; rintro e w' ⟨rfl, rfl⟩; rw [hCe.out]) | (go_at_call 30; rw [← hW1]; refine (bs_plain _ _ W1 hx1H.out).mono ?_; rintro e w2 ⟨rfl, hg2⟩; rw [hp.out]; have hbk := (hg2.block _ (lt_of_block hbox.out) (by simp)).trans hbox.out; have p0 := cell_blk hbk (i := 0) rfl; have p1 := cell_blk hbk (i := 1) rfl; have p2 := cell_blk hbk (i := 2) rfl; have p3 := cell_blk hbk (i := 3) rfl; have p4 := cell_blk hbk (i := 4) rfl; have p5 := cell_blk hbk (i := 5) rfl; have hg2H := Lib.hid hg2; clear hg2 hbk) | (go_at_call 25; rw [hCb.out]; refine (must_ok 1 _).mono ?_; rintro e w' ⟨rfl, rfl⟩) | (go_at_call 25; rw [hw.out]; refine (must_bad 1 _).mono ?_; rintro e w' ⟨rfl, rfl⟩))
      exact ⟨rfl, hS1H.out.plus hg2H.out, .inr ⟨h1H.out, rfl, s, hR1.out.keep hg2H.out⟩⟩
    · -- 11
      have h0 : M = s + 8 := by rw [hMH.out]; simp [encV, layI_length]
      by_cases hsum : s + 8 ≤ 65536
      · have h1 : OK := by rw [hOKH.out, h0]; exact ⟨by simp [hn0, hn1], hsum⟩
        have h1H := Lib.hid h1
        subst h0
        clear h1
        go_enter Tryd.func66, Tryd.ntmps66
        go_wp2_with (first | (go_at_call 61; refine (bs_code _ _).mono ?_; rintro e w' ⟨rfl, rfl⟩; rw [hCe.out]) | (go_at_call 30; rw [← hW1]; refine (bs_plain _ _ W1 hx1H.out).mono ?_; rintro e w2 ⟨rfl, hg2⟩; rw [hp.out]; have hbk := (hg2.block _ (lt_of_block hbox.out) (by simp)).trans hbox.out; have p0 := cell_blk hbk (i := 0) rfl; have p1 := cell_blk hbk (i := 1) rfl; have p2 := cell_blk hbk (i := 2) rfl; have p3 := cell_blk hbk (i := 3) rfl; have p4 := cell_blk hbk (i := 4) rfl; have p5 := cell_blk hbk (i := 5) rfl; have hg2H := Lib.hid hg2; clear hg2 hbk) | (go_at_call 25; (try rw [hCb.out]); refine (must_ok 1 _).mono ?_; rintro e w' ⟨rfl, rfl⟩) | (go_at_call 63; refine (add_ok (n := 8) (hR1.out.keep hg2H.out) hs hsum).mono ?_; rintro e w3 ⟨rfl, hr3, hs3⟩; have hr3H := Lib.hid hr3; have hs3H := Lib.hid hs3; clear hr3 hs3))
        go_end0
        exact ⟨(hS1H.out.plus hg2H.out).tail hs3H.out, .inl ⟨h1H.out, rfl, hr3H.out⟩⟩
      · have h1 : ¬ OK := by rw [hOKH.out, h0]; exact fun h => hsum h.2
        have h1H := Lib.hid h1
        subst h0
        clear h1
        go_enter Tryd.func66, Tryd.ntmps66
        go_wp2_with (first | (go_at_call 61; refine (bs_code _ _).mono ?_; rintro e w' ⟨rfl, rfl⟩; rw [hCe.out]) | (go_at_call 30; rw [← hW1]; refine (bs_plain _ _ W1 hx1H.out).mono ?_; rintro e w2 ⟨rfl, hg2⟩; rw [hp.out]; have hbk := (hg2.block _ (lt_of_block hbox.out) (by simp)).trans hbox.out; have p0 := cell_blk hbk (i := 0) rfl; have p1 := cell_blk hbk (i := 1) rfl; have p2 := cell_blk hbk (i := 2) rfl; have p3 := cell_blk hbk (i := 3) rfl; have p4 := cell_blk hbk (i := 4) rfl; have p5 := cell_blk hbk (i := 5) rfl; have hg2H := Lib.hid hg2; clear hg2 hbk) | (go_at_call 25; (try rw [hCb.out]); refine (must_ok 1 _).mono ?_; rintro e w' ⟨rfl, rfl⟩) | (go_at_call 63; refine (add_bad (n := 8) (hR1.out.keep hg2H.out) hs hsum (by omega)).mono ?_; rintro e w3 ⟨rfl, rfl⟩))
        exact ⟨rfl, hS1H.out.plus hg2H.out, .inr ⟨h1H.out, rfl, s, hR1.out.keep hg2H.out⟩⟩
    · -- 12
      have h0 : M = s := by rw [hMH.out]; simp [encV]
      have h1 : OK := by rw [hOKH.out, h0]; simp [hs]
      have h1H := Lib.hid h1
      subst h0
      clear h1
      go_enter Tryd.func66, Tryd.ntmps66
      go_wp2_with (first | (go_at_call 61; refine (bs_code _ _).mono ?_; rintro e w' ⟨rfl, rfl⟩; rw [hCe.out]) | (go_at_call 30; rw [← hW1]; refine (bs_plain _ _ W1 hx1H.out).mono ?_; rintro e w2 ⟨rfl, hg2⟩; rw [hp.out]; have hbk := (hg2.block _ (lt_of_block hbox.out) (by simp)).trans hbox.out; have p0 := cell_blk hbk (i := 0) rfl; have p1 := cell_blk hbk (i := 1) rfl; have p2 := cell_blk hbk (i := 2) rfl; have p3 := cell_blk hbk (i := 3) rfl; have p4 := cell_blk hbk (i := 4) rfl; have p5 := cell_blk hbk (i := 5) rfl; have hg2H := Lib.hid hg2; clear hg2 hbk) | (go_at_call 25; (try rw [hCb.out]); refine (must_ok 1 _).mono ?_; rintro e w' ⟨rfl, rfl⟩))
      go_end0
      exact ⟨hS1H.out.plus hg2H.out, .inl ⟨h1H.out, rfl, hR1.out.keep hg2H.out⟩⟩
end Go.Proofs.YtbkmnhogfegmcaaDoor
