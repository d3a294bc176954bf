/- The weigher weighs values. The weigher weighs values. -/
import Derived.Test.YtembpajlllnncaaGreatDoorAcS0
set_option linter.unusedVariables false
set_option linter.unusedSimpArgs false
namespace Go.Proofs.YtembpajlllnncaaGreatDoor
open Go.RowKit

theorem okFs_named (deep : Nat) : ∀ (l : List Val) (i : Nat) (seen : List Bs), (∀ x ∈ seen, ∃ j, j < i ∧ x = itoa j) → i + l.length < 10 ^ 19 → okFs deep seen (named i l) = okLs deep l
 | [], i, seen, _, _ => by simp [named, okFs, okLs]
 | v :: r, i, seen, h, hb => by
  have h1 : nameOk (itoa i) = true := itoa_nameOk (by simp only [List.length_cons] at hb; omega)
  have h2 : itoa i ∉ seen := fun hm => by
   obtain ⟨j, hj, e⟩ := h _ hm
   have := itoa_inj e
   omega
  have h3 := okFs_named deep r (i + 1) (itoa i :: seen) (fun x hx => by
   rcases List.mem_cons.1 hx with rfl | hx
   ·exact ⟨i, by omega, rfl⟩
   ·obtain ⟨j, hj, e⟩ := h x hx
    exact ⟨j, by omega, e⟩) (by simp only [List.length_cons] at hb; omega)
  rw [named, okFs, okLs, h1, h3]
  simp [h2]
set_option maxRecDepth 100000 in
set_option maxHeartbeats 4000000 in
theorem weigh_text {P : Nat → Prop} {n : Int} {st b : Bs} {f : List (Bs × Val)} {it : List Val} {cs : List Value} {R s deep : Nat} {w : World} (hx : VIs P w (.mk 5 n st b f it) cs) (hR : Wgh w R s) (hs : s ≤ 65536) (ht : Tabs P w) (hPR : ¬ P R) (hpl : (Val.mk 5 n st b f it).plain = true) (hd : deep ≤ 32) :
  Calls Tryz.prog 76 #[.pointer (some ⟨R, 0, none⟩), .agg cs.toArray, .int .i64 deep] w fun e w' => WPost (okV deep (.mk 5 n st b f it) = true ∧ s + (encV (.mk 5 n st b f it)).length ≤ 65536) R (s + (encV (.mk 5 n st b f it)).length) w w' e := by
 have hokv : okV deep (.mk 5 n st b f it) = utf8 st := by rw [okV, hpl]; simp [codeOf]
 have hlen : (encV (.mk 5 n st b f it)).length = st.length + 5 := by simp [encV, layI_length]; omega
 obtain ⟨OK, hOK⟩ : ∃ OK : Prop, OK = (okV deep (.mk 5 n st b f it) = true ∧ s + (encV (.mk 5 n st b f it)).length ≤ 65536) := ⟨_, rfl⟩
 obtain ⟨M, hM⟩ : ∃ M, M = s + (encV (.mk 5 n st b f it)).length := ⟨_, rfl⟩
 rw [← hOK, ← hM]
 rw [hokv, hlen] at hOK
 rw [hlen] at hM
 have hOKH := Lib.hid hOK
 have hMH := Lib.hid hM
 clear hokv hlen hOK hM
 obtain ⟨bv, fa, fc, la, lc, hcs, hb, ⟨hfc, hlc, hfn, hln⟩, ⟨hk0, hk1, hn0, hn1⟩, ⟨hs2, hb2, hf2, hl2⟩, hf, hl⟩ := hx.cells
 obtain ⟨ba, bc, rfl⟩ := hb.shape
 simp only [Val.kind, Val.num, Val.s, Val.b, Val.f, Val.l] at *
 subst hcs
 obtain ⟨W1, hW1⟩ : ∃ W1, W1 = w.alloc (.cells #[.int .i64 5, .int .i64 n, .string (strOf st), .slice ba b.length bc, .slice fa f.length fc, .slice la it.length lc] 35) := ⟨_, rfl⟩
 have hW : w.grownBy W1 none := by rw [hW1]; exact World.grownBy_alloc w _ none
 have hR1 := Lib.hid (hR.keep hW)
 have hx1 := hx.keep (P2 := P) (fun _ h => h) (fun k hP hk => hW.block k hk (by simp))
 have hS1 : Step [] id id w W1 := .grown hW (fun _ h => by cases h)
 have hS1H := Lib.hid hS1
 have ht1 := Lib.hid (ht.keep hS1 (fun _ h => by cases h))
 obtain ⟨C, hC⟩ : ∃ C, ((codeOf 5).toNat : Int) = C := ⟨_, rfl⟩
 have hCe := Lib.hid hC
 have hC0 : ¬ C = 0 := by rw [← hC]; decide
 have hCb := Lib.hid (show (C != 0) = true by rw [bne_iff_ne]; exact hC0)
 have hbox := Lib.hid (show W1.heap[w.heap.size]? = some (.cells #[.int .i64 5, .int .i64 n, .string (strOf st), .slice ba b.length bc, .slice fa f.length fc, .slice la it.length lc] 35 (0, 0)) by rw [hW1]; exact heap_alloc_new w _)
 have hx1H := Lib.hid hx1
 have hfH := Lib.hid hf
 have hlH := Lib.hid hl
 have hRo := Lib.hid hR
 have hp := Lib.hid hpl
 have htH := Lib.hid ht
 have hlt0 : w.heap.size < W1.heap.size := lt_of_block hbox.out
 have hlt0H := Lib.hid hlt0
 have hgW := Lib.hid hW
 clear hC hS1 hW hx hR hx1 ht hf hl hb hpl hlt0
 have hSz : (strOf st).size = st.length := strOf_size st
 cases hu : utf8 st
 ·have hno : ¬ OK := by rw [hOKH.out, hu]; simp
  have hnoH := Lib.hid hno
  have hw := Lib.hid hu
  clear hu hno
  go_enter Tryz.func76, Tryz.ntmps76
  go_wp2_with (first | (go_at_call 100; refine (bs_code _ _).mono ?_; rintro e w' ⟨rfl, rfl⟩; rw [hCe.out]) | (go_at_call 55; rw [← hW1]; refine (bs_plain _ _ W1 hx1H.out).mono ?_; rintro e w2 ⟨rfl, hg2⟩; rw [hp.out]; have hbk := (hg2.block _ (lt_of_block hbox.out) (by simp)).trans hbox.out; have p0 := cell_blk hbk (i := 0) rfl; have p1 := cell_blk hbk (i := 1) rfl; have p2 := cell_blk hbk (i := 2) rfl; have p3 := cell_blk hbk (i := 3) rfl; have p4 := cell_blk hbk (i := 4) rfl; have p5 := cell_blk hbk (i := 5) rfl; have hbk2 := Lib.hid hbk; have hg2H := Lib.hid hg2; clear hg2 hbk) | (go_at_call 72; rw [hCb.out]; refine (must_ok 1 _).mono ?_; rintro e w' ⟨rfl, rfl⟩) | (go_at_call 74; refine (bs_valid st hs2 (ht1.out.grown hg2H.out).utf).mono ?_; rintro e w3 ⟨rfl, hv3⟩; have hbk := hv3.at hbk2.out (by simp); have q0 := cell_blk hbk (i := 0) rfl; have q1 := cell_blk hbk (i := 1) rfl; have q2 := cell_blk hbk (i := 2) rfl; have q3 := cell_blk hbk (i := 3) rfl; have q4 := cell_blk hbk (i := 4) rfl; have q5 := cell_blk hbk (i := 5) rfl; have hv3H := Lib.hid hv3; clear hv3 hbk) | (go_at_call 72; rw [hw.out]; refine (must_bad 1 _).mono ?_; rintro e w' ⟨rfl, rfl⟩))
  exact ⟨rfl, ((hS1H.out.plus hg2H.out).tail hv3H.out).mono (fun _ h => by cases h), .inr ⟨hnoH.out, rfl, s, (hR1.out.keep hg2H.out).step hv3H.out⟩⟩
 ·obtain ⟨m, hm⟩ : ∃ m : Nat, m = min st.length 65536 := ⟨_, rfl⟩
  have h5 := Lib.hid (show (5 : Int) + min (st.length : Int) 65536 = ((5 + m : Nat) : Int) by rw [hm]; omega)
  have hw := Lib.hid hu
  by_cases hsum : s + (5 + m) ≤ 65536
  ·have hm2H := Lib.hid (show s + (5 + m) = M by rw [hMH.out]; omega)
   have hok := Lib.hid (show OK by rw [hOKH.out]; exact ⟨hu, by omega⟩)
   have hsumH := Lib.hid hsum
   clear hm hsum hu
   go_enter Tryz.func76, Tryz.ntmps76
   go_wp2_with (first | (go_at_call 100; refine (bs_code _ _).mono ?_; rintro e w' ⟨rfl, rfl⟩; rw [hCe.out]) | (go_at_call 55; rw [← hW1]; refine (bs_plain _ _ W1 hx1H.out).mono ?_; rintro e w2 ⟨rfl, hg2⟩; rw [hp.out]; have hbk := (hg2.block _ (lt_of_block hbox.out) (by simp)).trans hbox.out; have p0 := cell_blk hbk (i := 0) rfl; have p1 := cell_blk hbk (i := 1) rfl; have p2 := cell_blk hbk (i := 2) rfl; have p3 := cell_blk hbk (i := 3) rfl; have p4 := cell_blk hbk (i := 4) rfl; have p5 := cell_blk hbk (i := 5) rfl; have hbk2 := Lib.hid hbk; have hg2H := Lib.hid hg2; clear hg2 hbk) | (go_at_call 72; rw [hCb.out]; refine (must_ok 1 _).mono ?_; rintro e w' ⟨rfl, rfl⟩) | (go_at_call 74; refine (bs_valid st hs2 (ht1.out.grown hg2H.out).utf).mono ?_; rintro e w3 ⟨rfl, hv3⟩; have hbk := hv3.at hbk2.out (by simp); have q0 := cell_blk hbk (i := 0) rfl; have q1 := cell_blk hbk (i := 1) rfl; have q2 := cell_blk hbk (i := 2) rfl; have q3 := cell_blk hbk (i := 3) rfl; have q4 := cell_blk hbk (i := 4) rfl; have q5 := cell_blk hbk (i := 5) rfl; have hv3H := Lib.hid hv3; clear hv3 hbk) | (go_at_call 72; rw [hw.out]; refine (must_ok 1 _).mono ?_; rintro e w' ⟨rfl, rfl⟩) | (go_at_call 73; rw [h5.out]; refine (add_ok (n := 5 + m) ((hR1.out.keep hg2H.out).step hv3H.out) hs hsumH.out).mono ?_; rintro e w4 ⟨rfl, hr4, hs4⟩; have hr4H := Lib.hid hr4; have hs4H := Lib.hid hs4; clear hr4 hs4))
   go_end0
   exact ⟨((((hS1H.out.plus hg2H.out).tail hv3H.out).mono (fun _ h => by cases h)).tail hs4H.out), .inl ⟨hok.out, rfl, by rw [← hm2H.out]; exact hr4H.out⟩⟩
  ·have hno := Lib.hid (show ¬ OK by rw [hOKH.out]; intro h; have := h.2; omega)
   have hsumH := Lib.hid hsum
   have hmb := Lib.hid (show 5 + m ≤ 9223372036854775807 by omega)
   clear hm hsum hu
   go_enter Tryz.func76, Tryz.ntmps76
   go_wp2_with (first | (go_at_call 100; refine (bs_code _ _).mono ?_; rintro e w' ⟨rfl, rfl⟩; rw [hCe.out]) | (go_at_call 55; rw [← hW1]; refine (bs_plain _ _ W1 hx1H.out).mono ?_; rintro e w2 ⟨rfl, hg2⟩; rw [hp.out]; have hbk := (hg2.block _ (lt_of_block hbox.out) (by simp)).trans hbox.out; have p0 := cell_blk hbk (i := 0) rfl; have p1 := cell_blk hbk (i := 1) rfl; have p2 := cell_blk hbk (i := 2) rfl; have p3 := cell_blk hbk (i := 3) rfl; have p4 := cell_blk hbk (i := 4) rfl; have p5 := cell_blk hbk (i := 5) rfl; have hbk2 := Lib.hid hbk; have hg2H := Lib.hid hg2; clear hg2 hbk) | (go_at_call 72; rw [hCb.out]; refine (must_ok 1 _).mono ?_; rintro e w' ⟨rfl, rfl⟩) | (go_at_call 74; refine (bs_valid st hs2 (ht1.out.grown hg2H.out).utf).mono ?_; rintro e w3 ⟨rfl, hv3⟩; have hbk := hv3.at hbk2.out (by simp); have q0 := cell_blk hbk (i := 0) rfl; have q1 := cell_blk hbk (i := 1) rfl; have q2 := cell_blk hbk (i := 2) rfl; have q3 := cell_blk hbk (i := 3) rfl; have q4 := cell_blk hbk (i := 4) rfl; have q5 := cell_blk hbk (i := 5) rfl; have hv3H := Lib.hid hv3; clear hv3 hbk) | (go_at_call 72; rw [hw.out]; refine (must_ok 1 _).mono ?_; rintro e w' ⟨rfl, rfl⟩) | (go_at_call 73; rw [h5.out]; refine (add_bad (n := 5 + m) ((hR1.out.keep hg2H.out).step hv3H.out) hs hsumH.out hmb.out).mono ?_; rintro e w4 ⟨rfl, rfl⟩))
   exact ⟨rfl, ((hS1H.out.plus hg2H.out).tail hv3H.out).mono (fun _ h => by cases h), .inr ⟨hno.out, rfl, s, (hR1.out.keep hg2H.out).step hv3H.out⟩⟩
set_option maxRecDepth 100000 in
set_option maxHeartbeats 4000000 in
theorem weigh_bytes {P : Nat → Prop} {n : Int} {st b : Bs} {f : List (Bs × Val)} {it : List Val} {cs : List Value} {R s deep : Nat} {w : World} (hx : VIs P w (.mk 8 n st b f it) cs) (hR : Wgh w R s) (hs : s ≤ 65536) (ht : Tabs P w) (hPR : ¬ P R) (hpl : (Val.mk 8 n st b f it).plain = true) (hd : deep ≤ 32) :
  Calls Tryz.prog 76 #[.pointer (some ⟨R, 0, none⟩), .agg cs.toArray, .int .i64 deep] w fun e w' => WPost (okV deep (.mk 8 n st b f it) = true ∧ s + (encV (.mk 8 n st b f it)).length ≤ 65536) R (s + (encV (.mk 8 n st b f it)).length) w w' e := by
 have hokv : okV deep (.mk 8 n st b f it) = true := by rw [okV, hpl]; simp [codeOf]
 have hlen : (encV (.mk 8 n st b f it)).length = b.length + 5 := by simp [encV, layI_length]; omega
 obtain ⟨OK, hOK⟩ : ∃ OK : Prop, OK = (okV deep (.mk 8 n st b f it) = true ∧ s + (encV (.mk 8 n st b f it)).length ≤ 65536) := ⟨_, rfl⟩
 obtain ⟨M, hM⟩ : ∃ M, M = s + (encV (.mk 8 n st b f it)).length := ⟨_, rfl⟩
 rw [← hOK, ← hM]
 rw [hokv, hlen] at hOK
 rw [hlen] at hM
 have hOKH := Lib.hid hOK
 have hMH := Lib.hid hM
 clear hokv hlen hOK hM
 obtain ⟨bv, fa, fc, la, lc, hcs, hb, ⟨hfc, hlc, hfn, hln⟩, ⟨hk0, hk1, hn0, hn1⟩, ⟨hs2, hb2, hf2, hl2⟩, hf, hl⟩ := hx.cells
 obtain ⟨ba, bc, rfl⟩ := hb.shape
 simp only [Val.kind, Val.num, Val.s, Val.b, Val.f, Val.l] at *
 subst hcs
 obtain ⟨W1, hW1⟩ : ∃ W1, W1 = w.alloc (.cells #[.int .i64 8, .int .i64 n, .string (strOf st), .slice ba b.length bc, .slice fa f.length fc, .slice la it.length lc] 35) := ⟨_, rfl⟩
 have hW : w.grownBy W1 none := by rw [hW1]; exact World.grownBy_alloc w _ none
 have hR1 := Lib.hid (hR.keep hW)
 have hx1 := hx.keep (P2 := P) (fun _ h => h) (fun k hP hk => hW.block k hk (by simp))
 have hS1 : Step [] id id w W1 := .grown hW (fun _ h => by cases h)
 have hS1H := Lib.hid hS1
 have ht1 := Lib.hid (ht.keep hS1 (fun _ h => by cases h))
 obtain ⟨C, hC⟩ : ∃ C, ((codeOf 8).toNat : Int) = C := ⟨_, rfl⟩
 have hCe := Lib.hid hC
 have hC0 : ¬ C = 0 := by rw [← hC]; decide
 have hCb := Lib.hid (show (C != 0) = true by rw [bne_iff_ne]; exact hC0)
 have hbox := Lib.hid (show W1.heap[w.heap.size]? = some (.cells #[.int .i64 8, .int .i64 n, .string (strOf st), .slice ba b.length bc, .slice fa f.length fc, .slice la it.length lc] 35 (0, 0)) by rw [hW1]; exact heap_alloc_new w _)
 have hx1H := Lib.hid hx1
 have hfH := Lib.hid hf
 have hlH := Lib.hid hl
 have hRo := Lib.hid hR
 have hp := Lib.hid hpl
 have htH := Lib.hid ht
 have hlt0 : w.heap.size < W1.heap.size := lt_of_block hbox.out
 have hlt0H := Lib.hid hlt0
 have hgW := Lib.hid hW
 clear hC hS1 hW hx hR hx1 ht hf hl hb hpl hlt0
 obtain ⟨m, hm⟩ : ∃ m : Nat, m = min b.length 65536 := ⟨_, rfl⟩
 have h5 := Lib.hid (show (5 : Int) + min (b.length : Int) 65536 = ((5 + m : Nat) : Int) by rw [hm]; omega)
 by_cases hsum : s + (5 + m) ≤ 65536
 ·have hm2H := Lib.hid (show s + (5 + m) = M by rw [hMH.out]; omega)
  have hok := Lib.hid (show OK by rw [hOKH.out]; exact ⟨by simp, by omega⟩)
  have hsumH := Lib.hid hsum
  clear hm hsum
  go_enter Tryz.func76, Tryz.ntmps76
  go_wp2_with (first | (go_at_call 100; refine (bs_code _ _).mono ?_; rintro e w' ⟨rfl, rfl⟩; rw [hCe.out]) | (go_at_call 55; rw [← hW1]; refine (bs_plain _ _ W1 hx1H.out).mono ?_; rintro e w2 ⟨rfl, hg2⟩; rw [hp.out]; have hbk := (hg2.block _ (lt_of_block hbox.out) (by simp)).trans hbox.out; have p0 := cell_blk hbk (i := 0) rfl; have p1 := cell_blk hbk (i := 1) rfl; have p2 := cell_blk hbk (i := 2) rfl; have p3 := cell_blk hbk (i := 3) rfl; have p4 := cell_blk hbk (i := 4) rfl; have p5 := cell_blk hbk (i := 5) rfl; have hbk2 := Lib.hid hbk; have hg2H := Lib.hid hg2; clear hg2 hbk) | (go_at_call 72; rw [hCb.out]; refine (must_ok 1 _).mono ?_; rintro e w' ⟨rfl, rfl⟩) | (go_at_call 73; rw [h5.out]; refine (add_ok (n := 5 + m) (hR1.out.keep hg2H.out) hs hsumH.out).mono ?_; rintro e w4 ⟨rfl, hr4, hs4⟩; have hr4H := Lib.hid hr4; have hs4H := Lib.hid hs4; clear hr4 hs4))
  go_end0
  exact ⟨((hS1H.out.plus hg2H.out).tail hs4H.out), .inl ⟨hok.out, rfl, by rw [← hm2H.out]; exact hr4H.out⟩⟩
 ·have hno := Lib.hid (show ¬ OK by rw [hOKH.out]; intro h; have := h.2; omega)
  have hsumH := Lib.hid hsum
  have hmb := Lib.hid (show 5 + m ≤ 9223372036854775807 by omega)
  clear hm hsum
  go_enter Tryz.func76, Tryz.ntmps76
  go_wp2_with (first | (go_at_call 100; refine (bs_code _ _).mono ?_; rintro e w' ⟨rfl, rfl⟩; rw [hCe.out]) | (go_at_call 55; rw [← hW1]; refine (bs_plain _ _ W1 hx1H.out).mono ?_; rintro e w2 ⟨rfl, hg2⟩; rw [hp.out]; have hbk := (hg2.block _ (lt_of_block hbox.out) (by simp)).trans hbox.out; have p0 := cell_blk hbk (i := 0) rfl; have p1 := cell_blk hbk (i := 1) rfl; have p2 := cell_blk hbk (i := 2) rfl; have p3 := cell_blk hbk (i := 3) rfl; have p4 := cell_blk hbk (i := 4) rfl; have p5 := cell_blk hbk (i := 5) rfl; have hbk2 := Lib.hid hbk; have hg2H := Lib.hid hg2; clear hg2 hbk) | (go_at_call 72; rw [hCb.out]; refine (must_ok 1 _).mono ?_; rintro e w' ⟨rfl, rfl⟩) | (go_at_call 73; rw [h5.out]; refine (add_bad (n := 5 + m) (hR1.out.keep hg2H.out) hs hsumH.out hmb.out).mono ?_; rintro e w4 ⟨rfl, rfl⟩))
  exact ⟨rfl, (hS1H.out.plus hg2H.out), .inr ⟨hno.out, rfl, s, hR1.out.keep hg2H.out⟩⟩
/-- A weighing that is known to end well, or badly. -/
theorem WPost.good {ok : Prop} {R n : Nat} {w w' : World} {e : Ending} (h : WPost ok R n w w' e) (hk : ok) : e = done0 ∧ Wgh w' R n ∧ Step [R] id id w w' := by
 rcases h.2 with ⟨_, h1, h2⟩ | ⟨h1, _⟩
 ·exact ⟨h1, h2, h.1⟩
 ·exact absurd hk h1
theorem WPost.ill {ok : Prop} {R n : Nat} {w w' : World} {e : Ending} (h : WPost ok R n w w' e) (hk : ¬ ok) : e = broke 1 ∧ (∃ s, Wgh w' R s) ∧ Step [R] id id w w' := by
 rcases h.2 with ⟨h1, _⟩ | ⟨_, h1, h2⟩
 ·exact absurd h1 hk
 ·exact ⟨h1, h2, h.1⟩
set_option maxRecDepth 100000 in
set_option maxHeartbeats 4000000 in
theorem weigh_doc (fuel : Nat) (hF : WghF fuel) {P : Nat → Prop} {n : Int} {st b : Bs} {f : List (Bs × Val)} {it : List Val} {cs : List Value} {R s deep : Nat} {w : World} (hx : VIs P w (.mk 6 n st b f it) cs) (hR : Wgh w R s) (hs : s ≤ 65536) (ht : Tabs P w) (hPR : ¬ P R) (hpl : (Val.mk 6 n st b f it).plain = true) (hd : deep ≤ 32) (hfu : 33 ≤ fuel + deep) :
  Calls Tryz.prog 76 #[.pointer (some ⟨R, 0, none⟩), .agg cs.toArray, .int .i64 deep] w fun e w' => WPost (okV deep (.mk 6 n st b f it) = true ∧ s + (encV (.mk 6 n st b f it)).length ≤ 65536) R (s + (encV (.mk 6 n st b f it)).length) w w' e := by
 have hokv : okV deep (.mk 6 n st b f it) = (decide (deep + 1 ≤ 32) && okFs (deep + 1) [] f) := by rw [okV, hpl]; simp [codeOf]
 have hlen : (encV (.mk 6 n st b f it)).length = (wrapDoc (encFs f)).length := by simp [encV]
 obtain ⟨OK, hOK⟩ : ∃ OK : Prop, OK = (okV deep (.mk 6 n st b f it) = true ∧ s + (encV (.mk 6 n st b f it)).length ≤ 65536) := ⟨_, rfl⟩
 obtain ⟨M, hM⟩ : ∃ M, M = s + (encV (.mk 6 n st b f it)).length := ⟨_, rfl⟩
 rw [← hOK, ← hM]
 rw [hokv, hlen] at hOK
 rw [hlen] at hM
 have hOKH := Lib.hid hOK
 have hMH := Lib.hid hM
 clear hokv hlen hOK hM
 obtain ⟨bv, fa, fc, la, lc, hcs, hb, ⟨hfc, hlc, hfn, hln⟩, ⟨hk0, hk1, hn0, hn1⟩, ⟨hs2, hb2, hf2, hl2⟩, hf, hl⟩ := hx.cells
 obtain ⟨ba, bc, rfl⟩ := hb.shape
 simp only [Val.kind, Val.num, Val.s, Val.b, Val.f, Val.l] at *
 subst hcs
 obtain ⟨W1, hW1⟩ : ∃ W1, W1 = w.alloc (.cells #[.int .i64 6, .int .i64 n, .string (strOf st), .slice ba b.length bc, .slice fa f.length fc, .slice la it.length lc] 35) := ⟨_, rfl⟩
 have hW : w.grownBy W1 none := by rw [hW1]; exact World.grownBy_alloc w _ none
 have hR1 := Lib.hid (hR.keep hW)
 have hx1 := hx.keep (P2 := P) (fun _ h => h) (fun k hP hk => hW.block k hk (by simp))
 have hS1 : Step [] id id w W1 := .grown hW (fun _ h => by cases h)
 have hS1H := Lib.hid hS1
 have ht1 := Lib.hid (ht.keep hS1 (fun _ h => by cases h))
 obtain ⟨C, hC⟩ : ∃ C, ((codeOf 6).toNat : Int) = C := ⟨_, rfl⟩
 have hCe := Lib.hid hC
 have hC0 : ¬ C = 0 := by rw [← hC]; decide
 have hCb := Lib.hid (show (C != 0) = true by rw [bne_iff_ne]; exact hC0)
 have hbox := Lib.hid (show W1.heap[w.heap.size]? = some (.cells #[.int .i64 6, .int .i64 n, .string (strOf st), .slice ba b.length bc, .slice fa f.length fc, .slice la it.length lc] 35 (0, 0)) by rw [hW1]; exact heap_alloc_new w _)
 have hx1H := Lib.hid hx1
 have hfH := Lib.hid hf
 have hlH := Lib.hid hl
 have hRo := Lib.hid hR
 have hp := Lib.hid hpl
 have htH := Lib.hid ht
 have hlt0 : w.heap.size < W1.heap.size := lt_of_block hbox.out
 have hlt0H := Lib.hid hlt0
 have hgW := Lib.hid hW
 clear hC hS1 hW hx hR hx1 ht hf hl hb hpl hlt0
 have hd1 := Lib.hid (show (deep : Int) + 1 = ((deep + 1 : Nat) : Int) by push_cast; rfl)
 have hFc : ∀ W, Wgh W R s → w.grownBy W none → Calls Tryz.prog 58 #[.pointer (some ⟨R, 0, none⟩), .slice fa f.length fc, .int .i64 ((deep + 1 : Nat) : Int)] W fun e w' => WPost (deep + 1 ≤ 32 ∧ okFs (deep + 1) [] f = true ∧ s + (wrapDoc (encFs f)).length ≤ 65536) R (s + (wrapDoc (encFs f)).length) W w' e := fun W hR2 hg =>
  hF P f fa fc R s (deep + 1) W (by omega) (by omega) hfc hf2 (FIs.keep (fun _ h => h) (fun k hP hk => hg.block k hk (by simp)) f fa 0 hfH.out) hR2 hs (htH.out.grown hg) hPR
 have hFcH := Lib.hid hFc
 clear hFc
 by_cases hcd : (deep + 1 ≤ 32 ∧ okFs (deep + 1) [] f = true ∧ s + (wrapDoc (encFs f)).length ≤ 65536)
 ·have hok := Lib.hid (show OK by rw [hOKH.out]; exact ⟨by simp [hcd.1, hcd.2.1], hcd.2.2⟩)
  have hcd := Lib.hid hcd
  go_enter Tryz.func76, Tryz.ntmps76
  go_wp2_with (first | (go_at_call 100; refine (bs_code _ _).mono ?_; rintro e w' ⟨rfl, rfl⟩; rw [hCe.out]) | (go_at_call 55; rw [← hW1]; refine (bs_plain _ _ W1 hx1H.out).mono ?_; rintro e w2 ⟨rfl, hg2⟩; rw [hp.out]; have hbk := (hg2.block _ (lt_of_block hbox.out) (by simp)).trans hbox.out; have p0 := cell_blk hbk (i := 0) rfl; have p1 := cell_blk hbk (i := 1) rfl; have p2 := cell_blk hbk (i := 2) rfl; have p3 := cell_blk hbk (i := 3) rfl; have p4 := cell_blk hbk (i := 4) rfl; have p5 := cell_blk hbk (i := 5) rfl; have hbk2 := Lib.hid hbk; have hg2H := Lib.hid hg2; clear hg2 hbk) | (go_at_call 72; rw [hCb.out]; refine (must_ok 1 _).mono ?_; rintro e w' ⟨rfl, rfl⟩) | (go_at_call 58; rw [hd1.out]; refine (hFcH.out _ (hR1.out.keep hg2H.out) (hgW.out.trans hg2H.out)).mono ?_; rintro e w4 h4; obtain ⟨rfl, hr4, hs4⟩ := h4.good hcd.out; have hr4H := Lib.hid hr4; have hs4H := Lib.hid hs4; clear hr4 hs4 h4))
  go_end0
  exact ⟨((hS1H.out.plus hg2H.out).tail hs4H.out), .inl ⟨hok.out, rfl, by rw [hMH.out]; exact hr4H.out⟩⟩
 ·have hno := Lib.hid (show ¬ OK by rw [hOKH.out]; intro h; refine hcd ?_; have h1 := h.1; simp only [Bool.and_eq_true, decide_eq_true_eq] at h1; exact ⟨h1.1, h1.2, h.2⟩)
  have hcd := Lib.hid hcd
  go_enter Tryz.func76, Tryz.ntmps76
  go_wp2_with (first | (go_at_call 100; refine (bs_code _ _).mono ?_; rintro e w' ⟨rfl, rfl⟩; rw [hCe.out]) | (go_at_call 55; rw [← hW1]; refine (bs_plain _ _ W1 hx1H.out).mono ?_; rintro e w2 ⟨rfl, hg2⟩; rw [hp.out]; have hbk := (hg2.block _ (lt_of_block hbox.out) (by simp)).trans hbox.out; have p0 := cell_blk hbk (i := 0) rfl; have p1 := cell_blk hbk (i := 1) rfl; have p2 := cell_blk hbk (i := 2) rfl; have p3 := cell_blk hbk (i := 3) rfl; have p4 := cell_blk hbk (i := 4) rfl; have p5 := cell_blk hbk (i := 5) rfl; have hbk2 := Lib.hid hbk; have hg2H := Lib.hid hg2; clear hg2 hbk) | (go_at_call 72; rw [hCb.out]; refine (must_ok 1 _).mono ?_; rintro e w' ⟨rfl, rfl⟩) | (go_at_call 58; rw [hd1.out]; refine (hFcH.out _ (hR1.out.keep hg2H.out) (hgW.out.trans hg2H.out)).mono ?_; rintro e w4 h4; obtain ⟨rfl, ⟨s', hr4⟩, hs4⟩ := h4.ill hcd.out; have hr4H := Lib.hid hr4; have hs4H := Lib.hid hs4; clear hr4 hs4 h4))
  exact ⟨rfl, ((hS1H.out.plus hg2H.out).tail hs4H.out), .inr ⟨hno.out, rfl, s', hr4H.out⟩⟩
set_option maxRecDepth 100000 in
set_option maxHeartbeats 4000000 in
theorem weigh_list (fuel : Nat) (hF : WghF fuel) {P : Nat → Prop} {n : Int} {st b : Bs} {f : List (Bs × Val)} {it : List Val} {cs : List Value} {R s deep : Nat} {w : World} (hx : VIs P w (.mk 7 n st b f it) cs) (hR : Wgh w R s) (hs : s ≤ 65536) (ht : Tabs P w) (hPR : ¬ P R) (hpl : (Val.mk 7 n st b f it).plain = true) (hd : deep ≤ 32) (hfu : 33 ≤ fuel + deep) :
  Calls Tryz.prog 76 #[.pointer (some ⟨R, 0, none⟩), .agg cs.toArray, .int .i64 deep] w fun e w' => WPost (okV deep (.mk 7 n st b f it) = true ∧ s + (encV (.mk 7 n st b f it)).length ≤ 65536) R (s + (encV (.mk 7 n st b f it)).length) w w' e := by
 have hokv : okV deep (.mk 7 n st b f it) = (decide (deep + 1 ≤ 32) && okLs (deep + 1) it) := by rw [okV, hpl]; simp [codeOf]
 have hlen : (encV (.mk 7 n st b f it)).length = (wrapDoc (encFs (named 0 it))).length := by simp [encV, encFs_named]
 obtain ⟨OK, hOK⟩ : ∃ OK : Prop, OK = (okV deep (.mk 7 n st b f it) = true ∧ s + (encV (.mk 7 n st b f it)).length ≤ 65536) := ⟨_, rfl⟩
 obtain ⟨M, hM⟩ : ∃ M, M = s + (encV (.mk 7 n st b f it)).length := ⟨_, rfl⟩
 rw [← hOK, ← hM]
 rw [hokv, hlen] at hOK
 rw [hlen] at hM
 have hOKH := Lib.hid hOK
 have hMH := Lib.hid hM
 clear hokv hlen hOK hM
 obtain ⟨bv, fa, fc, la, lc, hcs, hb, ⟨hfc, hlc, hfn, hln⟩, ⟨hk0, hk1, hn0, hn1⟩, ⟨hs2, hb2, hf2, hl2⟩, hf, hl⟩ := hx.cells
 obtain ⟨ba, bc, rfl⟩ := hb.shape
 simp only [Val.kind, Val.num, Val.s, Val.b, Val.f, Val.l] at *
 subst hcs
 obtain ⟨W1, hW1⟩ : ∃ W1, W1 = w.alloc (.cells #[.int .i64 7, .int .i64 n, .string (strOf st), .slice ba b.length bc, .slice fa f.length fc, .slice la it.length lc] 35) := ⟨_, rfl⟩
 have hW : w.grownBy W1 none := by rw [hW1]; exact World.grownBy_alloc w _ none
 have hR1 := Lib.hid (hR.keep hW)
 have hx1 := hx.keep (P2 := P) (fun _ h => h) (fun k hP hk => hW.block k hk (by simp))
 have hS1 : Step [] id id w W1 := .grown hW (fun _ h => by cases h)
 have hS1H := Lib.hid hS1
 have ht1 := Lib.hid (ht.keep hS1 (fun _ h => by cases h))
 obtain ⟨C, hC⟩ : ∃ C, ((codeOf 7).toNat : Int) = C := ⟨_, rfl⟩
 have hCe := Lib.hid hC
 have hC0 : ¬ C = 0 := by rw [← hC]; decide
 have hCb := Lib.hid (show (C != 0) = true by rw [bne_iff_ne]; exact hC0)
 have hbox := Lib.hid (show W1.heap[w.heap.size]? = some (.cells #[.int .i64 7, .int .i64 n, .string (strOf st), .slice ba b.length bc, .slice fa f.length fc, .slice la it.length lc] 35 (0, 0)) by rw [hW1]; exact heap_alloc_new w _)
 have hx1H := Lib.hid hx1
 have hfH := Lib.hid hf
 have hlH := Lib.hid hl
 have hRo := Lib.hid hR
 have hp := Lib.hid hpl
 have htH := Lib.hid ht
 have hlt0 : w.heap.size < W1.heap.size := lt_of_block hbox.out
 have hlt0H := Lib.hid hlt0
 have hgW := Lib.hid hW
 clear hC hS1 hW hx hR hx1 ht hf hl hb hpl hlt0
 have hd1 := Lib.hid (show (deep : Int) + 1 = ((deep + 1 : Nat) : Int) by push_cast; rfl)
 by_cases hlen : it.length ≤ 65536
 ·have hRlt := lt_of_block hRo.out
  have hNm : ∀ W, w.grownBy W none → Calls Tryz.prog 101 #[.slice la it.length lc] W fun e w' => ∃ ad c, e = .returned (.slice ad it.length c) ∧ FIs (fun k => P k ∨ W.heap.size ≤ k) w' (named 0 it) ad 0 ∧ W.grownBy w' none ∧ it.length ≤ c := fun W hg =>
   bs_named it la lc W (by omega) (LIs.keep (fun _ h => h) (fun k hP hk => hg.block k hk (by simp)) it la 0 hlH.out) (htH.out.pow.keep hg)
  have hNmH := Lib.hid hNm
  have hFc : ∀ W W2 ad c, FIs (fun k => P k ∨ W.heap.size ≤ k) W2 (named 0 it) ad 0 → it.length ≤ c → Wgh W2 R s → w.grownBy W none → W.grownBy W2 none → Calls Tryz.prog 58 #[.pointer (some ⟨R, 0, none⟩), .slice ad it.length c, .int .i64 ((deep + 1 : Nat) : Int)] W2 fun e w' => WPost (deep + 1 ≤ 32 ∧ okLs (deep + 1) it = true ∧ s + (wrapDoc (encFs (named 0 it))).length ≤ 65536) R (s + (wrapDoc (encFs (named 0 it))).length) W2 w' e := fun W W2 ad c hFI hc hR2 hg hg2 => by
   have h5 := FIs.below (named 0 it) ad 0 hFI
   have h6 := hF (fun k => (P k ∨ W.heap.size ≤ k) ∧ k < W2.heap.size) (named 0 it) ad c R s (deep + 1) W2 (by omega) (by omega) (by rw [named_length]; exact hc) (by rw [named_length]; exact hl2) h5 hR2 hs ((htH.out.grown (hg.trans hg2)).more (fun k hk => ⟨.inl hk, Nat.lt_of_lt_of_le (htH.out.lt k hk) (Nat.le_trans hg.size hg2.size)⟩) (fun k hk => hk.2)) (fun h => by
    rcases h.1 with h | h
    ·exact hPR h
    ·have := hg.size; omega)
   rw [named_length, okFs_named (deep + 1) it 0 [] (fun _ h => by cases h) (by omega)] at h6
   exact h6
  have hFcH := Lib.hid hFc
  have hli : (it.length : Int) ≤ 65536 := by omega
  clear hFc hNm hRlt
  by_cases hcd : (deep + 1 ≤ 32 ∧ okLs (deep + 1) it = true ∧ s + (wrapDoc (encFs (named 0 it))).length ≤ 65536)
  ·have hok := Lib.hid (show OK by rw [hOKH.out]; exact ⟨by simp [hcd.1, hcd.2.1], hcd.2.2⟩)
   have hcd := Lib.hid hcd
   go_enter Tryz.func76, Tryz.ntmps76
   go_wp2_with (first | (go_at_call 100; refine (bs_code _ _).mono ?_; rintro e w' ⟨rfl, rfl⟩; rw [hCe.out]) | (go_at_call 55; rw [← hW1]; refine (bs_plain _ _ W1 hx1H.out).mono ?_; rintro e w2 ⟨rfl, hg2⟩; rw [hp.out]; have hbk := (hg2.block _ (lt_of_block hbox.out) (by simp)).trans hbox.out; have p0 := cell_blk hbk (i := 0) rfl; have p1 := cell_blk hbk (i := 1) rfl; have p2 := cell_blk hbk (i := 2) rfl; have p3 := cell_blk hbk (i := 3) rfl; have p4 := cell_blk hbk (i := 4) rfl; have p5 := cell_blk hbk (i := 5) rfl; have hbk2 := Lib.hid hbk; have hg2H := Lib.hid hg2; clear hg2 hbk) | (go_at_call 72; (try rw [hCb.out]); refine (must_ok 1 _).mono ?_; rintro e w' ⟨rfl, rfl⟩) | (go_at_call 101; refine (hNmH.out _ (hgW.out.trans hg2H.out)).mono ?_; rintro e w3 ⟨ad3, c3, rfl, hFI3, hg3, hc3⟩; have hFI3H := Lib.hid hFI3; have hg3H := Lib.hid hg3; have hbk := (hg3.block _ (lt_of_block hbk2.out) (by simp)).trans hbk2.out; have q0 := cell_blk hbk (i := 0) rfl; have q1 := cell_blk hbk (i := 1) rfl; have q2 := cell_blk hbk (i := 2) rfl; have q3 := cell_blk hbk (i := 3) rfl; have q4 := cell_blk hbk (i := 4) rfl; have q5 := cell_blk hbk (i := 5) rfl; clear hFI3 hg3 hbk) | (go_at_call 58; rw [hd1.out]; refine (hFcH.out _ _ _ _ hFI3H.out hc3 ((hR1.out.keep hg2H.out).keep hg3H.out) (hgW.out.trans hg2H.out) hg3H.out).mono ?_; rintro e w4 h4; obtain ⟨rfl, hr4, hs4⟩ := h4.good hcd.out; have hr4H := Lib.hid hr4; have hs4H := Lib.hid hs4; clear hr4 hs4 h4))
   go_end0
   exact ⟨((hS1H.out.plus (hg2H.out.trans hg3H.out)).tail hs4H.out), .inl ⟨hok.out, rfl, by rw [hMH.out]; exact hr4H.out⟩⟩
  ·have hno := Lib.hid (show ¬ OK by rw [hOKH.out]; intro h; refine hcd ?_; have h1 := h.1; simp only [Bool.and_eq_true, decide_eq_true_eq] at h1; exact ⟨h1.1, h1.2, h.2⟩)
   have hcd := Lib.hid hcd
   go_enter Tryz.func76, Tryz.ntmps76
   go_wp2_with (first | (go_at_call 100; refine (bs_code _ _).mono ?_; rintro e w' ⟨rfl, rfl⟩; rw [hCe.out]) | (go_at_call 55; rw [← hW1]; refine (bs_plain _ _ W1 hx1H.out).mono ?_; rintro e w2 ⟨rfl, hg2⟩; rw [hp.out]; have hbk := (hg2.block _ (lt_of_block hbox.out) (by simp)).trans hbox.out; have p0 := cell_blk hbk (i := 0) rfl; have p1 := cell_blk hbk (i := 1) rfl; have p2 := cell_blk hbk (i := 2) rfl; have p3 := cell_blk hbk (i := 3) rfl; have p4 := cell_blk hbk (i := 4) rfl; have p5 := cell_blk hbk (i := 5) rfl; have hbk2 := Lib.hid hbk; have hg2H := Lib.hid hg2; clear hg2 hbk) | (go_at_call 72; (try rw [hCb.out]); refine (must_ok 1 _).mono ?_; rintro e w' ⟨rfl, rfl⟩) | (go_at_call 101; refine (hNmH.out _ (hgW.out.trans hg2H.out)).mono ?_; rintro e w3 ⟨ad3, c3, rfl, hFI3, hg3, hc3⟩; have hFI3H := Lib.hid hFI3; have hg3H := Lib.hid hg3; have hbk := (hg3.block _ (lt_of_block hbk2.out) (by simp)).trans hbk2.out; have q0 := cell_blk hbk (i := 0) rfl; have q1 := cell_blk hbk (i := 1) rfl; have q2 := cell_blk hbk (i := 2) rfl; have q3 := cell_blk hbk (i := 3) rfl; have q4 := cell_blk hbk (i := 4) rfl; have q5 := cell_blk hbk (i := 5) rfl; clear hFI3 hg3 hbk) | (go_at_call 58; rw [hd1.out]; refine (hFcH.out _ _ _ _ hFI3H.out hc3 ((hR1.out.keep hg2H.out).keep hg3H.out) (hgW.out.trans hg2H.out) hg3H.out).mono ?_; rintro e w4 h4; obtain ⟨rfl, ⟨s', hr4⟩, hs4⟩ := h4.ill hcd.out; have hr4H := Lib.hid hr4; have hs4H := Lib.hid hs4; clear hr4 hs4 h4))
   exact ⟨rfl, ((hS1H.out.plus (hg2H.out.trans hg3H.out)).tail hs4H.out), .inr ⟨hno.out, rfl, s', hr4H.out⟩⟩
 ·have hno := Lib.hid (show ¬ OK by rw [hOKH.out]; intro h; have h1 := h.2; rw [wrapDoc_length] at h1; have h2 := encFs_len (named 0 it); rw [named_length] at h2; omega)
  have hli : ¬ (it.length : Int) ≤ 65536 := by omega
  have hw := Lib.hid (decide_eq_false hli)
  go_enter Tryz.func76, Tryz.ntmps76
  go_wp2_with (first | (go_at_call 100; refine (bs_code _ _).mono ?_; rintro e w' ⟨rfl, rfl⟩; rw [hCe.out]) | (go_at_call 55; rw [← hW1]; refine (bs_plain _ _ W1 hx1H.out).mono ?_; rintro e w2 ⟨rfl, hg2⟩; rw [hp.out]; have hbk := (hg2.block _ (lt_of_block hbox.out) (by simp)).trans hbox.out; have p0 := cell_blk hbk (i := 0) rfl; have p1 := cell_blk hbk (i := 1) rfl; have p2 := cell_blk hbk (i := 2) rfl; have p3 := cell_blk hbk (i := 3) rfl; have p4 := cell_blk hbk (i := 4) rfl; have p5 := cell_blk hbk (i := 5) rfl; have hbk2 := Lib.hid hbk; have hg2H := Lib.hid hg2; clear hg2 hbk) | (go_at_call 72; rw [hCb.out]; refine (must_ok 1 _).mono ?_; rintro e w' ⟨rfl, rfl⟩) | (go_at_call 72; (try rw [hw.out]); refine (must_bad 1 _).mono ?_; rintro e w' ⟨rfl, rfl⟩))
  exact ⟨rfl, (hS1H.out.plus hg2H.out), .inr ⟨hno.out, rfl, s, hR1.out.keep hg2H.out⟩⟩
end Go.Proofs.YtembpajlllnncaaGreatDoor
namespace Go.Proofs.YtembpajlllnncaaGreatDoor
open Go.RowKit

set_option maxRecDepth 100000 in
set_option maxHeartbeats 4000000 in
theorem weigh_value (fuel : Nat) (hF : WghF fuel) : WghV fuel := by
 intro P x cs R s deep w hfu hd hx hR hs ht hPR
 obtain ⟨bv, fa, fc, la, lc, hcs, hb, ⟨hfc, hlc, hfn, hln⟩, ⟨hk0, hk1, hn0, hn1⟩, ⟨hs2, hb2, hf2, hl2⟩, hf, hl⟩ := hx.cells
 obtain ⟨ba, bc, rfl⟩ := hb.shape
 cases x with
 | mk k n st b f it =>
  simp only [Val.kind, Val.num, Val.s, Val.b, Val.f, Val.l] at *
  subst hcs
  obtain ⟨W1, hW1⟩ : ∃ W1, W1 = w.alloc (.cells #[.int .i64 k, .int .i64 n, .string (strOf st), .slice ba b.length bc, .slice fa f.length fc, .slice la it.length lc] 35) := ⟨_, rfl⟩
  have hW : w.grownBy W1 none := by rw [hW1]; exact World.grownBy_alloc w _ none
  have hR1 := Lib.hid (hR.keep hW)
  have hx1 := hx.keep (P2 := P) (fun _ h => h) (fun k hP hk => hW.block k hk (by simp))
  have hS1 : Step [] id id w W1 := .grown hW (fun _ h => by cases h)
  have hS1H := Lib.hid hS1
  have ht1 := Lib.hid (ht.keep hS1 (fun _ h => by cases h))
  by_cases hc : codeOf k = 0
  ·have hok : ¬ (okV deep (.mk k n st b f it) = true ∧ s + (encV (.mk k n st b f it)).length ≤ 65536) := fun h => by
    have := h.1
    rw [okV] at this
    simp only [Bool.and_eq_true, decide_eq_true_eq] at this
    exact this.1.2 hc
   have hokH := Lib.hid hok
   have hc2 : ((codeOf k).toNat : Int) = 0 := by rw [hc]; rfl
   clear hok hc hx1 hS1 hW hx hR ht hf hl hb
   go_enter Tryz.func76, Tryz.ntmps76
   go_wp2_with (first | (go_at_call 100; refine (bs_code k _).mono ?_; rintro e w' ⟨rfl, rfl⟩; rw [hc2]) | (go_at_call 72; refine (must_bad 1 _).mono ?_; rintro e w' ⟨rfl, rfl⟩))
   rw [← hW1]
   exact ⟨rfl, hS1H.out.mono (fun _ h => by cases h), .inr ⟨hokH.out, rfl, s, hR1.out⟩⟩
  obtain ⟨C, hC⟩ : ∃ C, ((codeOf k).toNat : Int) = C := ⟨_, rfl⟩
  have hCe := Lib.hid hC
  have hC0 : ¬ C = 0 := fun e => hc (by
   rw [← hC] at e
   exact UInt8.toNat_inj.1 (by simpa using e))
  have hCb := Lib.hid (show (C != 0) = true by rw [bne_iff_ne]; exact hC0)
  have hbox := Lib.hid (show W1.heap[w.heap.size]? = some (.cells #[.int .i64 k, .int .i64 n, .string (strOf st), .slice ba b.length bc, .slice fa f.length fc, .slice la it.length lc] 35 (0, 0)) by rw [hW1]; exact heap_alloc_new w _)
  have hx1H := Lib.hid hx1
  have hfH := Lib.hid hf
  have hlH := Lib.hid hl
  have hRo := Lib.hid hR
  have hxo := Lib.hid hx
  have hto := Lib.hid ht
  clear hC hS1 hW hx hR hx1 ht hf hl hb
  cases hpl : (Val.mk k n st b f it).plain
  ·have hok : ¬ (okV deep (.mk k n st b f it) = true ∧ s + (encV (.mk k n st b f it)).length ≤ 65536) := fun h => by
    have := h.1
    rw [okV, hpl] at this
    simp at this
   have hokH := Lib.hid hok
   have hp := Lib.hid hpl
   clear hok hpl
   go_enter Tryz.func76, Tryz.ntmps76
   go_wp2_with (first | (go_at_call 100; refine (bs_code _ _).mono ?_; rintro e w' ⟨rfl, rfl⟩; rw [hCe.out]) | (go_at_call 55; rw [← hW1]; refine (bs_plain _ _ W1 hx1H.out).mono ?_; rintro e w2 ⟨rfl, hg2⟩; rw [hp.out]; have hbk := (hg2.block _ (lt_of_block hbox.out) (by simp)).trans hbox.out; have p0 := cell_blk hbk (i := 0) rfl; have p1 := cell_blk hbk (i := 1) rfl; have p2 := cell_blk hbk (i := 2) rfl; have p3 := cell_blk hbk (i := 3) rfl; have p4 := cell_blk hbk (i := 4) rfl; have p5 := cell_blk hbk (i := 5) rfl; have hg2H := Lib.hid hg2; clear hg2 hbk) | (go_at_call 72; refine (must_bad 1 _).mono ?_; rintro e w' ⟨rfl, rfl⟩))
   exact ⟨rfl, hS1H.out.plus hg2H.out, .inr ⟨hokH.out, rfl, s, hR1.out.keep hg2H.out⟩⟩
  have hp := Lib.hid hpl
  by_cases k5 : k = 5
  ·subst k5; exact weigh_text hxo.out hRo.out hs hto.out hPR hpl hd
  by_cases k6 : k = 6
  ·subst k6; exact weigh_doc fuel hF hxo.out hRo.out hs hto.out hPR hpl hd hfu
  by_cases k7 : k = 7
  ·subst k7; exact weigh_list fuel hF hxo.out hRo.out hs hto.out hPR hpl hd hfu
  by_cases k8 : k = 8
  ·subst k8; exact weigh_bytes hxo.out hRo.out hs hto.out hPR hpl hd
  have hokv : okV deep (.mk k n st b f it) = (if k = 3 then decide (-2147483648 ≤ n ∧ n ≤ 2147483647) else if k = 4 ∨ k = 11 then decide (-9223372036854775808 ≤ n ∧ n ≤ 9223372036854775807) else if k = 10 then decide (n = 0 ∨ n = 1) else if k = 5 then utf8 st
   else if k = 6 then decide (deep + 1 ≤ 32) && okFs (deep + 1) [] f
   else if k = 7 then decide (deep + 1 ≤ 32) && okLs (deep + 1) it
   else if k = 9 then decide (b.length = 12) else true) := by
   rw [okV, hpl]; simp [hc]
  have hokvH := Lib.hid hokv
  clear hpl hokv
  obtain ⟨hkk, -⟩ := codeOf_known hc
  obtain ⟨OK, hOK⟩ : ∃ OK : Prop, OK = (okV deep (.mk k n st b f it) = true ∧ s + (encV (.mk k n st b f it)).length ≤ 65536) := ⟨_, rfl⟩
  obtain ⟨M, hM⟩ : ∃ M, M = s + (encV (.mk k n st b f it)).length := ⟨_, rfl⟩
  rw [← hOK, ← hM]
  rw [hokvH.out, ← hM] at hOK
  have hOKH := Lib.hid hOK
  have hMH := Lib.hid hM
  clear hOK hM
  rcases hkk with rfl | rfl | rfl | rfl | rfl | rfl | rfl | rfl | rfl | rfl | rfl | rfl
  ·-- 1
   have h0 : M = s := by rw [hMH.out]; simp [encV]
   have h1 : OK := by rw [hOKH.out, h0]; simp [hs]
   have h1H := Lib.hid h1
   subst h0
   clear h1
   go_enter Tryz.func76, Tryz.ntmps76
   go_wp2_with (first | (go_at_call 100; refine (bs_code _ _).mono ?_; rintro e w' ⟨rfl, rfl⟩; rw [hCe.out]) | (go_at_call 55; rw [← hW1]; refine (bs_plain _ _ W1 hx1H.out).mono ?_; rintro e w2 ⟨rfl, hg2⟩; rw [hp.out]; have hbk := (hg2.block _ (lt_of_block hbox.out) (by simp)).trans hbox.out; have p0 := cell_blk hbk (i := 0) rfl; have p1 := cell_blk hbk (i := 1) rfl; have p2 := cell_blk hbk (i := 2) rfl; have p3 := cell_blk hbk (i := 3) rfl; have p4 := cell_blk hbk (i := 4) rfl; have p5 := cell_blk hbk (i := 5) rfl; have hg2H := Lib.hid hg2; clear hg2 hbk) | (go_at_call 72; (try rw [hCb.out]); refine (must_ok 1 _).mono ?_; rintro e w' ⟨rfl, rfl⟩))
   go_end0
   exact ⟨hS1H.out.plus hg2H.out, .inl ⟨h1H.out, rfl, hR1.out.keep hg2H.out⟩⟩
  ·-- 2
   have h0 : M = s := by rw [hMH.out]; simp [encV]
   have h1 : OK := by rw [hOKH.out, h0]; simp [hs]
   have h1H := Lib.hid h1
   subst h0
   clear h1
   go_enter Tryz.func76, Tryz.ntmps76
   go_wp2_with (first | (go_at_call 100; refine (bs_code _ _).mono ?_; rintro e w' ⟨rfl, rfl⟩; rw [hCe.out]) | (go_at_call 55; rw [← hW1]; refine (bs_plain _ _ W1 hx1H.out).mono ?_; rintro e w2 ⟨rfl, hg2⟩; rw [hp.out]; have hbk := (hg2.block _ (lt_of_block hbox.out) (by simp)).trans hbox.out; have p0 := cell_blk hbk (i := 0) rfl; have p1 := cell_blk hbk (i := 1) rfl; have p2 := cell_blk hbk (i := 2) rfl; have p3 := cell_blk hbk (i := 3) rfl; have p4 := cell_blk hbk (i := 4) rfl; have p5 := cell_blk hbk (i := 5) rfl; have hg2H := Lib.hid hg2; clear hg2 hbk) | (go_at_call 72; (try rw [hCb.out]); refine (must_ok 1 _).mono ?_; rintro e w' ⟨rfl, rfl⟩))
   go_end0
   exact ⟨hS1H.out.plus hg2H.out, .inl ⟨h1H.out, rfl, hR1.out.keep hg2H.out⟩⟩
  ·-- 3
   have h0 : M = s + 4 := by rw [hMH.out]; simp [encV, layI_length]
   by_cases hcd : -2147483648 ≤ n ∧ n ≤ 2147483647
   ·by_cases hsum : s + 4 ≤ 65536
    ·have h1 : OK := by rw [hOKH.out, h0]; exact ⟨by simpa using hcd, hsum⟩
     have h1H := Lib.hid h1
     have h0H := Lib.hid h0
     clear h1 h0
     have hw := Lib.hid (show (n == wrap64 (wrap32 n)) = true by rw [beq_iff_eq]; unfold wrap64 wrap32; omega)
     go_enter Tryz.func76, Tryz.ntmps76
     go_wp2_with (first | (go_at_call 100; refine (bs_code _ _).mono ?_; rintro e w' ⟨rfl, rfl⟩; rw [hCe.out]) | (go_at_call 55; rw [← hW1]; refine (bs_plain _ _ W1 hx1H.out).mono ?_; rintro e w2 ⟨rfl, hg2⟩; rw [hp.out]; have hbk := (hg2.block _ (lt_of_block hbox.out) (by simp)).trans hbox.out; have p0 := cell_blk hbk (i := 0) rfl; have p1 := cell_blk hbk (i := 1) rfl; have p2 := cell_blk hbk (i := 2) rfl; have p3 := cell_blk hbk (i := 3) rfl; have p4 := cell_blk hbk (i := 4) rfl; have p5 := cell_blk hbk (i := 5) rfl; have hg2H := Lib.hid hg2; clear hg2 hbk) | (go_at_call 72; (try rw [hCb.out]); (try rw [hw.out]); refine (must_ok 1 _).mono ?_; rintro e w' ⟨rfl, rfl⟩) | (go_at_call 73; refine (add_ok (n := 4) (hR1.out.keep hg2H.out) hs hsum).mono ?_; rintro e w3 ⟨rfl, hr3, hs3⟩; have hr3H := Lib.hid hr3; have hs3H := Lib.hid hs3; clear hr3 hs3))
     go_end0
     exact ⟨(hS1H.out.plus hg2H.out).tail hs3H.out, .inl ⟨h1H.out, rfl, by rw [h0H.out]; exact hr3H.out⟩⟩
    ·have h1 : ¬ OK := by rw [hOKH.out, h0]; exact fun h => hsum h.2
     have h1H := Lib.hid h1
     clear h1 h0
     have hw := Lib.hid (show (n == wrap64 (wrap32 n)) = true by rw [beq_iff_eq]; unfold wrap64 wrap32; omega)
     go_enter Tryz.func76, Tryz.ntmps76
     go_wp2_with (first | (go_at_call 100; refine (bs_code _ _).mono ?_; rintro e w' ⟨rfl, rfl⟩; rw [hCe.out]) | (go_at_call 55; rw [← hW1]; refine (bs_plain _ _ W1 hx1H.out).mono ?_; rintro e w2 ⟨rfl, hg2⟩; rw [hp.out]; have hbk := (hg2.block _ (lt_of_block hbox.out) (by simp)).trans hbox.out; have p0 := cell_blk hbk (i := 0) rfl; have p1 := cell_blk hbk (i := 1) rfl; have p2 := cell_blk hbk (i := 2) rfl; have p3 := cell_blk hbk (i := 3) rfl; have p4 := cell_blk hbk (i := 4) rfl; have p5 := cell_blk hbk (i := 5) rfl; have hg2H := Lib.hid hg2; clear hg2 hbk) | (go_at_call 72; (try rw [hCb.out]); (try rw [hw.out]); refine (must_ok 1 _).mono ?_; rintro e w' ⟨rfl, rfl⟩) | (go_at_call 73; refine (add_bad (n := 4) (hR1.out.keep hg2H.out) hs hsum (by omega)).mono ?_; rintro e w3 ⟨rfl, rfl⟩))
     exact ⟨rfl, hS1H.out.plus hg2H.out, .inr ⟨h1H.out, rfl, s, hR1.out.keep hg2H.out⟩⟩
   ·have h1 : ¬ OK := by rw [hOKH.out, h0]; exact fun h => hcd (by have := h.1; simpa using this)
    have h1H := Lib.hid h1
    clear h1 h0
    have hw := Lib.hid (show (n == wrap64 (wrap32 n)) = false by rw [beq_eq_false_iff_ne]; unfold wrap64 wrap32; omega)
    go_enter Tryz.func76, Tryz.ntmps76
    go_wp2_with (first | (go_at_call 100; refine (bs_code _ _).mono ?_; rintro e w' ⟨rfl, rfl⟩; rw [hCe.out]) | (go_at_call 55; rw [← hW1]; refine (bs_plain _ _ W1 hx1H.out).mono ?_; rintro e w2 ⟨rfl, hg2⟩; rw [hp.out]; have hbk := (hg2.block _ (lt_of_block hbox.out) (by simp)).trans hbox.out; have p0 := cell_blk hbk (i := 0) rfl; have p1 := cell_blk hbk (i := 1) rfl; have p2 := cell_blk hbk (i := 2) rfl; have p3 := cell_blk hbk (i := 3) rfl; have p4 := cell_blk hbk (i := 4) rfl; have p5 := cell_blk hbk (i := 5) rfl; have hg2H := Lib.hid hg2; clear hg2 hbk) | (go_at_call 72; rw [hCb.out]; refine (must_ok 1 _).mono ?_; rintro e w' ⟨rfl, rfl⟩) | (go_at_call 72; rw [hw.out]; refine (must_bad 1 _).mono ?_; rintro e w' ⟨rfl, rfl⟩))
    exact ⟨rfl, hS1H.out.plus hg2H.out, .inr ⟨h1H.out, rfl, s, hR1.out.keep hg2H.out⟩⟩
  ·-- 4
   have h0 : M = s + 8 := by rw [hMH.out]; simp [encV, layI_length]
   by_cases hsum : s + 8 ≤ 65536
   ·have h1 : OK := by rw [hOKH.out, h0]; exact ⟨by simp [hn0, hn1], hsum⟩
    have h1H := Lib.hid h1
    subst h0
    clear h1
    go_enter Tryz.func76, Tryz.ntmps76
    go_wp2_with (first | (go_at_call 100; refine (bs_code _ _).mono ?_; rintro e w' ⟨rfl, rfl⟩; rw [hCe.out]) | (go_at_call 55; rw [← hW1]; refine (bs_plain _ _ W1 hx1H.out).mono ?_; rintro e w2 ⟨rfl, hg2⟩; rw [hp.out]; have hbk := (hg2.block _ (lt_of_block hbox.out) (by simp)).trans hbox.out; have p0 := cell_blk hbk (i := 0) rfl; have p1 := cell_blk hbk (i := 1) rfl; have p2 := cell_blk hbk (i := 2) rfl; have p3 := cell_blk hbk (i := 3) rfl; have p4 := cell_blk hbk (i := 4) rfl; have p5 := cell_blk hbk (i := 5) rfl; have hg2H := Lib.hid hg2; clear hg2 hbk) | (go_at_call 72; (try rw [hCb.out]); refine (must_ok 1 _).mono ?_; rintro e w' ⟨rfl, rfl⟩) | (go_at_call 73; refine (add_ok (n := 8) (hR1.out.keep hg2H.out) hs hsum).mono ?_; rintro e w3 ⟨rfl, hr3, hs3⟩; have hr3H := Lib.hid hr3; have hs3H := Lib.hid hs3; clear hr3 hs3))
    go_end0
    exact ⟨(hS1H.out.plus hg2H.out).tail hs3H.out, .inl ⟨h1H.out, rfl, hr3H.out⟩⟩
   ·have h1 : ¬ OK := by rw [hOKH.out, h0]; exact fun h => hsum h.2
    have h1H := Lib.hid h1
    subst h0
    clear h1
    go_enter Tryz.func76, Tryz.ntmps76
    go_wp2_with (first | (go_at_call 100; refine (bs_code _ _).mono ?_; rintro e w' ⟨rfl, rfl⟩; rw [hCe.out]) | (go_at_call 55; rw [← hW1]; refine (bs_plain _ _ W1 hx1H.out).mono ?_; rintro e w2 ⟨rfl, hg2⟩; rw [hp.out]; have hbk := (hg2.block _ (lt_of_block hbox.out) (by simp)).trans hbox.out; have p0 := cell_blk hbk (i := 0) rfl; have p1 := cell_blk hbk (i := 1) rfl; have p2 := cell_blk hbk (i := 2) rfl; have p3 := cell_blk hbk (i := 3) rfl; have p4 := cell_blk hbk (i := 4) rfl; have p5 := cell_blk hbk (i := 5) rfl; have hg2H := Lib.hid hg2; clear hg2 hbk) | (go_at_call 72; (try rw [hCb.out]); refine (must_ok 1 _).mono ?_; rintro e w' ⟨rfl, rfl⟩) | (go_at_call 73; refine (add_bad (n := 8) (hR1.out.keep hg2H.out) hs hsum (by omega)).mono ?_; rintro e w3 ⟨rfl, rfl⟩))
    exact ⟨rfl, hS1H.out.plus hg2H.out, .inr ⟨h1H.out, rfl, s, hR1.out.keep hg2H.out⟩⟩
  ·exact absurd rfl k5
  ·exact absurd rfl k6
  ·exact absurd rfl k7
  ·exact absurd rfl k8
  ·-- 9
   have h00 : M = s + b.length := by rw [hMH.out]; simp [encV]
   by_cases hcd : b.length = 12
   ·have h0 : M = s + 12 := by rw [h00, hcd]
    by_cases hsum : s + 12 ≤ 65536
    ·have h1 : OK := by rw [hOKH.out, h0]; exact ⟨by simpa using hcd, hsum⟩
     have h1H := Lib.hid h1
     have h0H := Lib.hid h0
     clear h1 h0 h00
     have hw := Lib.hid (show ((b.length : Int) == 12) = true by rw [beq_iff_eq]; omega)
     clear hcd
     go_enter Tryz.func76, Tryz.ntmps76
     go_wp2_with (first | (go_at_call 100; refine (bs_code _ _).mono ?_; rintro e w' ⟨rfl, rfl⟩; rw [hCe.out]) | (go_at_call 55; rw [← hW1]; refine (bs_plain _ _ W1 hx1H.out).mono ?_; rintro e w2 ⟨rfl, hg2⟩; rw [hp.out]; have hbk := (hg2.block _ (lt_of_block hbox.out) (by simp)).trans hbox.out; have p0 := cell_blk hbk (i := 0) rfl; have p1 := cell_blk hbk (i := 1) rfl; have p2 := cell_blk hbk (i := 2) rfl; have p3 := cell_blk hbk (i := 3) rfl; have p4 := cell_blk hbk (i := 4) rfl; have p5 := cell_blk hbk (i := 5) rfl; have hg2H := Lib.hid hg2; clear hg2 hbk) | (go_at_call 72; (try rw [hCb.out]); (try rw [hw.out]); refine (must_ok 1 _).mono ?_; rintro e w' ⟨rfl, rfl⟩) | (go_at_call 73; refine (add_ok (n := 12) (hR1.out.keep hg2H.out) hs hsum).mono ?_; rintro e w3 ⟨rfl, hr3, hs3⟩; have hr3H := Lib.hid hr3; have hs3H := Lib.hid hs3; clear hr3 hs3))
     go_end0
     exact ⟨(hS1H.out.plus hg2H.out).tail hs3H.out, .inl ⟨h1H.out, rfl, by rw [h0H.out]; exact hr3H.out⟩⟩
    ·have h1 : ¬ OK := by rw [hOKH.out, h0]; exact fun h => hsum h.2
     have h1H := Lib.hid h1
     clear h1 h0 h00
     have hw := Lib.hid (show ((b.length : Int) == 12) = true by rw [beq_iff_eq]; omega)
     clear hcd
     go_enter Tryz.func76, Tryz.ntmps76
     go_wp2_with (first | (go_at_call 100; refine (bs_code _ _).mono ?_; rintro e w' ⟨rfl, rfl⟩; rw [hCe.out]) | (go_at_call 55; rw [← hW1]; refine (bs_plain _ _ W1 hx1H.out).mono ?_; rintro e w2 ⟨rfl, hg2⟩; rw [hp.out]; have hbk := (hg2.block _ (lt_of_block hbox.out) (by simp)).trans hbox.out; have p0 := cell_blk hbk (i := 0) rfl; have p1 := cell_blk hbk (i := 1) rfl; have p2 := cell_blk hbk (i := 2) rfl; have p3 := cell_blk hbk (i := 3) rfl; have p4 := cell_blk hbk (i := 4) rfl; have p5 := cell_blk hbk (i := 5) rfl; have hg2H := Lib.hid hg2; clear hg2 hbk) | (go_at_call 72; (try rw [hCb.out]); (try rw [hw.out]); refine (must_ok 1 _).mono ?_; rintro e w' ⟨rfl, rfl⟩) | (go_at_call 73; refine (add_bad (n := 12) (hR1.out.keep hg2H.out) hs hsum (by omega)).mono ?_; rintro e w3 ⟨rfl, rfl⟩))
     exact ⟨rfl, hS1H.out.plus hg2H.out, .inr ⟨h1H.out, rfl, s, hR1.out.keep hg2H.out⟩⟩
   ·have h1 : ¬ OK := by rw [hOKH.out]; exact fun h => hcd (by have := h.1; simpa using this)
    have h1H := Lib.hid h1
    clear h1 h00
    have hw := Lib.hid (show ((b.length : Int) == 12) = false by rw [beq_eq_false_iff_ne]; omega)
    clear hcd
    go_enter Tryz.func76, Tryz.ntmps76
    go_wp2_with (first | (go_at_call 100; refine (bs_code _ _).mono ?_; rintro e w' ⟨rfl, rfl⟩; rw [hCe.out]) | (go_at_call 55; rw [← hW1]; refine (bs_plain _ _ W1 hx1H.out).mono ?_; rintro e w2 ⟨rfl, hg2⟩; rw [hp.out]; have hbk := (hg2.block _ (lt_of_block hbox.out) (by simp)).trans hbox.out; have p0 := cell_blk hbk (i := 0) rfl; have p1 := cell_blk hbk (i := 1) rfl; have p2 := cell_blk hbk (i := 2) rfl; have p3 := cell_blk hbk (i := 3) rfl; have p4 := cell_blk hbk (i := 4) rfl; have p5 := cell_blk hbk (i := 5) rfl; have hg2H := Lib.hid hg2; clear hg2 hbk) | (go_at_call 72; rw [hCb.out]; refine (must_ok 1 _).mono ?_; rintro e w' ⟨rfl, rfl⟩) | (go_at_call 72; rw [hw.out]; refine (must_bad 1 _).mono ?_; rintro e w' ⟨rfl, rfl⟩))
    exact ⟨rfl, hS1H.out.plus hg2H.out, .inr ⟨h1H.out, rfl, s, hR1.out.keep hg2H.out⟩⟩
  ·-- 10
   have h0 : M = s + 1 := by rw [hMH.out]; simp [encV, layI_length]
   by_cases hz : n = 0
   ·subst hz
    by_cases hsum : s + 1 ≤ 65536
    ·have h1 : OK := by rw [hOKH.out, h0]; exact ⟨by simp, hsum⟩
     have h1H := Lib.hid h1
     subst h0
     clear h1
     go_enter Tryz.func76, Tryz.ntmps76
     go_wp2_with (first | (go_at_call 100; refine (bs_code _ _).mono ?_; rintro e w' ⟨rfl, rfl⟩; rw [hCe.out]) | (go_at_call 55; rw [← hW1]; refine (bs_plain _ _ W1 hx1H.out).mono ?_; rintro e w2 ⟨rfl, hg2⟩; rw [hp.out]; have hbk := (hg2.block _ (lt_of_block hbox.out) (by simp)).trans hbox.out; have p0 := cell_blk hbk (i := 0) rfl; have p1 := cell_blk hbk (i := 1) rfl; have p2 := cell_blk hbk (i := 2) rfl; have p3 := cell_blk hbk (i := 3) rfl; have p4 := cell_blk hbk (i := 4) rfl; have p5 := cell_blk hbk (i := 5) rfl; have hg2H := Lib.hid hg2; clear hg2 hbk) | (go_at_call 72; (try rw [hCb.out]); refine (must_ok 1 _).mono ?_; rintro e w' ⟨rfl, rfl⟩) | (go_at_call 73; refine (add_ok (n := 1) (hR1.out.keep hg2H.out) hs hsum).mono ?_; rintro e w3 ⟨rfl, hr3, hs3⟩; have hr3H := Lib.hid hr3; have hs3H := Lib.hid hs3; clear hr3 hs3))
     go_end0
     exact ⟨(hS1H.out.plus hg2H.out).tail hs3H.out, .inl ⟨h1H.out, rfl, hr3H.out⟩⟩
    ·have h1 : ¬ OK := by rw [hOKH.out, h0]; exact fun h => hsum h.2
     have h1H := Lib.hid h1
     subst h0
     clear h1
     go_enter Tryz.func76, Tryz.ntmps76
     go_wp2_with (first | (go_at_call 100; refine (bs_code _ _).mono ?_; rintro e w' ⟨rfl, rfl⟩; rw [hCe.out]) | (go_at_call 55; rw [← hW1]; refine (bs_plain _ _ W1 hx1H.out).mono ?_; rintro e w2 ⟨rfl, hg2⟩; rw [hp.out]; have hbk := (hg2.block _ (lt_of_block hbox.out) (by simp)).trans hbox.out; have p0 := cell_blk hbk (i := 0) rfl; have p1 := cell_blk hbk (i := 1) rfl; have p2 := cell_blk hbk (i := 2) rfl; have p3 := cell_blk hbk (i := 3) rfl; have p4 := cell_blk hbk (i := 4) rfl; have p5 := cell_blk hbk (i := 5) rfl; have hg2H := Lib.hid hg2; clear hg2 hbk) | (go_at_call 72; (try rw [hCb.out]); refine (must_ok 1 _).mono ?_; rintro e w' ⟨rfl, rfl⟩) | (go_at_call 73; refine (add_bad (n := 1) (hR1.out.keep hg2H.out) hs hsum (by omega)).mono ?_; rintro e w3 ⟨rfl, rfl⟩))
     exact ⟨rfl, hS1H.out.plus hg2H.out, .inr ⟨h1H.out, rfl, s, hR1.out.keep hg2H.out⟩⟩
   by_cases hz1 : n = 1
   ·subst hz1
    by_cases hsum : s + 1 ≤ 65536
    ·have h1 : OK := by rw [hOKH.out, h0]; exact ⟨by simp, hsum⟩
     have h1H := Lib.hid h1
     subst h0
     clear h1
     go_enter Tryz.func76, Tryz.ntmps76
     go_wp2_with (first | (go_at_call 100; refine (bs_code _ _).mono ?_; rintro e w' ⟨rfl, rfl⟩; rw [hCe.out]) | (go_at_call 55; rw [← hW1]; refine (bs_plain _ _ W1 hx1H.out).mono ?_; rintro e w2 ⟨rfl, hg2⟩; rw [hp.out]; have hbk := (hg2.block _ (lt_of_block hbox.out) (by simp)).trans hbox.out; have p0 := cell_blk hbk (i := 0) rfl; have p1 := cell_blk hbk (i := 1) rfl; have p2 := cell_blk hbk (i := 2) rfl; have p3 := cell_blk hbk (i := 3) rfl; have p4 := cell_blk hbk (i := 4) rfl; have p5 := cell_blk hbk (i := 5) rfl; have hg2H := Lib.hid hg2; clear hg2 hbk) | (go_at_call 72; (try rw [hCb.out]); refine (must_ok 1 _).mono ?_; rintro e w' ⟨rfl, rfl⟩) | (go_at_call 73; refine (add_ok (n := 1) (hR1.out.keep hg2H.out) hs hsum).mono ?_; rintro e w3 ⟨rfl, hr3, hs3⟩; have hr3H := Lib.hid hr3; have hs3H := Lib.hid hs3; clear hr3 hs3))
     go_end0
     exact ⟨(hS1H.out.plus hg2H.out).tail hs3H.out, .inl ⟨h1H.out, rfl, hr3H.out⟩⟩
    ·have h1 : ¬ OK := by rw [hOKH.out, h0]; exact fun h => hsum h.2
     have h1H := Lib.hid h1
     subst h0
     clear h1
     go_enter Tryz.func76, Tryz.ntmps76
     go_wp2_with (first | (go_at_call 100; refine (bs_code _ _).mono ?_; rintro e w' ⟨rfl, rfl⟩; rw [hCe.out]) | (go_at_call 55; rw [← hW1]; refine (bs_plain _ _ W1 hx1H.out).mono ?_; rintro e w2 ⟨rfl, hg2⟩; rw [hp.out]; have hbk := (hg2.block _ (lt_of_block hbox.out) (by simp)).trans hbox.out; have p0 := cell_blk hbk (i := 0) rfl; have p1 := cell_blk hbk (i := 1) rfl; have p2 := cell_blk hbk (i := 2) rfl; have p3 := cell_blk hbk (i := 3) rfl; have p4 := cell_blk hbk (i := 4) rfl; have p5 := cell_blk hbk (i := 5) rfl; have hg2H := Lib.hid hg2; clear hg2 hbk) | (go_at_call 72; (try rw [hCb.out]); refine (must_ok 1 _).mono ?_; rintro e w' ⟨rfl, rfl⟩) | (go_at_call 73; refine (add_bad (n := 1) (hR1.out.keep hg2H.out) hs hsum (by omega)).mono ?_; rintro e w3 ⟨rfl, rfl⟩))
     exact ⟨rfl, hS1H.out.plus hg2H.out, .inr ⟨h1H.out, rfl, s, hR1.out.keep hg2H.out⟩⟩
   have h1 : ¬ OK := by rw [hOKH.out]; exact fun h => by have := h.1; simp [hz, hz1] at this
   have h1H := Lib.hid h1
   clear h1 h0
   have hw := Lib.hid (show (n == 0 || n == 1) = false by simp [hz, hz1])
   go_enter Tryz.func76, Tryz.ntmps76
   go_wp2_with (first | (go_at_call 100; refine (bs_code _ _).mono ?_; rintro e w' ⟨rfl, rfl⟩; rw [hCe.out]) | (go_at_call 55; rw [← hW1]; refine (bs_plain _ _ W1 hx1H.out).mono ?_; rintro e w2 ⟨rfl, hg2⟩; rw [hp.out]; have hbk := (hg2.block _ (lt_of_block hbox.out) (by simp)).trans hbox.out; have p0 := cell_blk hbk (i := 0) rfl; have p1 := cell_blk hbk (i := 1) rfl; have p2 := cell_blk hbk (i := 2) rfl; have p3 := cell_blk hbk (i := 3) rfl; have p4 := cell_blk hbk (i := 4) rfl; have p5 := cell_blk hbk (i := 5) rfl; have hg2H := Lib.hid hg2; clear hg2 hbk) | (go_at_call 72; rw [hCb.out]; refine (must_ok 1 _).mono ?_; rintro e w' ⟨rfl, rfl⟩) | (go_at_call 72; rw [hw.out]; refine (must_bad 1 _).mono ?_; rintro e w' ⟨rfl, rfl⟩))
   exact ⟨rfl, hS1H.out.plus hg2H.out, .inr ⟨h1H.out, rfl, s, hR1.out.keep hg2H.out⟩⟩
  ·-- 11
   have h0 : M = s + 8 := by rw [hMH.out]; simp [encV, layI_length]
   by_cases hsum : s + 8 ≤ 65536
   ·have h1 : OK := by rw [hOKH.out, h0]; exact ⟨by simp [hn0, hn1], hsum⟩
    have h1H := Lib.hid h1
    subst h0
    clear h1
    go_enter Tryz.func76, Tryz.ntmps76
    go_wp2_with (first | (go_at_call 100; refine (bs_code _ _).mono ?_; rintro e w' ⟨rfl, rfl⟩; rw [hCe.out]) | (go_at_call 55; rw [← hW1]; refine (bs_plain _ _ W1 hx1H.out).mono ?_; rintro e w2 ⟨rfl, hg2⟩; rw [hp.out]; have hbk := (hg2.block _ (lt_of_block hbox.out) (by simp)).trans hbox.out; have p0 := cell_blk hbk (i := 0) rfl; have p1 := cell_blk hbk (i := 1) rfl; have p2 := cell_blk hbk (i := 2) rfl; have p3 := cell_blk hbk (i := 3) rfl; have p4 := cell_blk hbk (i := 4) rfl; have p5 := cell_blk hbk (i := 5) rfl; have hg2H := Lib.hid hg2; clear hg2 hbk) | (go_at_call 72; (try rw [hCb.out]); refine (must_ok 1 _).mono ?_; rintro e w' ⟨rfl, rfl⟩) | (go_at_call 73; refine (add_ok (n := 8) (hR1.out.keep hg2H.out) hs hsum).mono ?_; rintro e w3 ⟨rfl, hr3, hs3⟩; have hr3H := Lib.hid hr3; have hs3H := Lib.hid hs3; clear hr3 hs3))
    go_end0
    exact ⟨(hS1H.out.plus hg2H.out).tail hs3H.out, .inl ⟨h1H.out, rfl, hr3H.out⟩⟩
   ·have h1 : ¬ OK := by rw [hOKH.out, h0]; exact fun h => hsum h.2
    have h1H := Lib.hid h1
    subst h0
    clear h1
    go_enter Tryz.func76, Tryz.ntmps76
    go_wp2_with (first | (go_at_call 100; refine (bs_code _ _).mono ?_; rintro e w' ⟨rfl, rfl⟩; rw [hCe.out]) | (go_at_call 55; rw [← hW1]; refine (bs_plain _ _ W1 hx1H.out).mono ?_; rintro e w2 ⟨rfl, hg2⟩; rw [hp.out]; have hbk := (hg2.block _ (lt_of_block hbox.out) (by simp)).trans hbox.out; have p0 := cell_blk hbk (i := 0) rfl; have p1 := cell_blk hbk (i := 1) rfl; have p2 := cell_blk hbk (i := 2) rfl; have p3 := cell_blk hbk (i := 3) rfl; have p4 := cell_blk hbk (i := 4) rfl; have p5 := cell_blk hbk (i := 5) rfl; have hg2H := Lib.hid hg2; clear hg2 hbk) | (go_at_call 72; (try rw [hCb.out]); refine (must_ok 1 _).mono ?_; rintro e w' ⟨rfl, rfl⟩) | (go_at_call 73; refine (add_bad (n := 8) (hR1.out.keep hg2H.out) hs hsum (by omega)).mono ?_; rintro e w3 ⟨rfl, rfl⟩))
    exact ⟨rfl, hS1H.out.plus hg2H.out, .inr ⟨h1H.out, rfl, s, hR1.out.keep hg2H.out⟩⟩
  ·-- 12
   have h0 : M = s := by rw [hMH.out]; simp [encV]
   have h1 : OK := by rw [hOKH.out, h0]; simp [hs]
   have h1H := Lib.hid h1
   subst h0
   clear h1
   go_enter Tryz.func76, Tryz.ntmps76
   go_wp2_with (first | (go_at_call 100; refine (bs_code _ _).mono ?_; rintro e w' ⟨rfl, rfl⟩; rw [hCe.out]) | (go_at_call 55; rw [← hW1]; refine (bs_plain _ _ W1 hx1H.out).mono ?_; rintro e w2 ⟨rfl, hg2⟩; rw [hp.out]; have hbk := (hg2.block _ (lt_of_block hbox.out) (by simp)).trans hbox.out; have p0 := cell_blk hbk (i := 0) rfl; have p1 := cell_blk hbk (i := 1) rfl; have p2 := cell_blk hbk (i := 2) rfl; have p3 := cell_blk hbk (i := 3) rfl; have p4 := cell_blk hbk (i := 4) rfl; have p5 := cell_blk hbk (i := 5) rfl; have hg2H := Lib.hid hg2; clear hg2 hbk) | (go_at_call 72; (try rw [hCb.out]); refine (must_ok 1 _).mono ?_; rintro e w' ⟨rfl, rfl⟩))
   go_end0
   exact ⟨hS1H.out.plus hg2H.out, .inl ⟨h1H.out, rfl, hR1.out.keep hg2H.out⟩⟩
end Go.Proofs.YtembpajlllnncaaGreatDoor
