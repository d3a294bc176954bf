/- Size. -/
import Derived.Test.YtembpajlllnncaaDoorAcS4
set_option linter.unusedVariables false
set_option linter.unusedSimpArgs false
namespace Go.Proofs.YtembpajlllnncaaDoor
open Go.RowKit

set_option maxRecDepth 100000 in
set_option maxHeartbeats 2000000 in
theorem size_part {P : Nat → Prop} {w : World} {x : Val} {cs : List Value} {V Q R : Nat} (hV : w.heap[V]? = some (.cells cs.toArray 32 (0, 0))) (hQ : w.heap[Q]? = some (.cells #[.pointer (some ⟨R, 0, none⟩)] 66 (0, 0)))
    (hR : Wgh w R 0) (hx : VIs P w x cs) (ht : Tabs P w) (hPR : ¬ P R) :
    Calls Tryd.prog 44 #[.pointer (some ⟨Q, 0, none⟩), .pointer (some ⟨V, 0, none⟩)] w fun e w' => WPost (1 ≤ 32 ∧ okFs 1 [] x.f = true ∧ 0 + (wrapDoc (encFs x.f)).length ≤ 65536) R (0 + (wrapDoc (encFs x.f)).length) w w' e := by
  obtain ⟨bv, fa, fc, la, lc, rfl, hb, ⟨hfc, hlc, hfn, hln⟩, -, ⟨hs2, hb2, hf2, hl2⟩, hf, hl⟩ := hx.cells
  have q0 := cell_blk hQ (i := 0) rfl
  have v4 := cell_blk hV (i := 4) rfl
  have hF := (weigh_all 34).1 P x.f fa fc R 0 1 w (by omega) (by omega) hfc hf2 hf hR (by omega) ht hPR
  generalize hn : x.f.length = n at *
  have hFH := Lib.hid hF
  clear hF hV hQ hR hx ht hf hl hb hn
  go_enter Tryd.func44, Tryd.ntmps44
  go_wp2_with fail
  refine hFH.out.mono ?_
  rintro e w' ⟨hst, ⟨hk, rfl, hr⟩ | ⟨hk, rfl, hr⟩⟩
  · have h3 := Lib.hid hst
    have h4 := Lib.hid hr
    have h5 := Lib.hid hk
    clear hst hr hk
    go_wp2_with fail
    go_end0
    exact ⟨h3.out, .inl ⟨h5.out, rfl, h4.out⟩⟩
  · exact ⟨rfl, hst, .inr ⟨hk, rfl, hr⟩⟩
set_option maxRecDepth 100000 in
set_option maxHeartbeats 4000000 in
theorem bs_size {P : Nat → Prop} {w : World} {x : Val} {cs : List Value} (hx : VIs P w x cs) (ht : Tabs P w) :
    Calls Tryd.prog 32 #[.agg cs.toArray] w fun e w' => e = .returned (.int .i64 (sizeOf_ x)) ∧ Step [] id id w w' := by
  have hmf : ∀ (fn : Fn) (first cap : Array Value) (w : World), (Instr.makeFunc fn first cap).run Tryd.prog w = .ok (.func fn first cap) w := fun _ _ _ _ => rfl
  obtain ⟨s0, ba, bn, bc, fa, fn, fc, la, ln, lc, hcs, -⟩ := hx.six
  obtain ⟨n0, hn0⟩ : ∃ k, k = x.num := ⟨_, rfl⟩
  obtain ⟨k0, hk0⟩ : ∃ k, k = x.kind := ⟨_, rfl⟩
  rw [← hk0, ← hn0] at hcs
  subst hcs
  clear hn0
  obtain ⟨W1, hW1⟩ : ∃ W1, W1 = w.alloc (.cells #[.int .i64 k0, .int .i64 n0, .string s0, .slice ba bn bc, .slice fa fn fc, .slice la ln lc] 32) := ⟨_, rfl⟩
  obtain ⟨W2, hW2⟩ : ∃ W2, W2 = W1.alloc (.cells #[.int .i64 0] 68) := ⟨_, rfl⟩
  obtain ⟨W3, hW3⟩ : ∃ W3, W3 = W2.alloc (.cells #[.pointer (some ⟨w.heap.size + 1, 0, none⟩)] 66) := ⟨_, rfl⟩
  obtain ⟨S, hS⟩ : ∃ S, S = sizeOf_ x := ⟨_, rfl⟩
  rw [← hS]
  have z1 : W1.heap.size = w.heap.size + 1 := by rw [hW1]; simp
  have z2 : W2.heap.size = w.heap.size + 1 + 1 := by rw [hW2]; simp [z1]
  have hV : W3.heap[w.heap.size]? = some (.cells #[.int .i64 k0, .int .i64 n0, .string s0, .slice ba bn bc, .slice fa fn fc, .slice la ln lc] 32 (0, 0)) := by
    rw [hW3]; refine alloc_old ?_; rw [hW2]; refine alloc_old ?_; rw [hW1]; exact heap_alloc_new w _
  have hR : Wgh W3 (w.heap.size + 1) 0 := by
    unfold Wgh; rw [hW3]; refine alloc_old ?_; rw [hW2, ← z1]; exact heap_alloc_new W1 _
  have hQ : W3.heap[w.heap.size + 1 + 1]? = some (.cells #[.pointer (some ⟨w.heap.size + 1, 0, none⟩)] 66 (0, 0)) := by
    rw [hW3, ← z2]; exact heap_alloc_new W2 _
  have hg3 : w.grownBy W3 none := by rw [hW3, hW2, hW1]; exact ((World.grownBy_alloc w _ none).trans (World.grownBy_alloc _ _ none)).trans (World.grownBy_alloc _ _ none)
  have hx3 := Lib.hid (hx.keep (P2 := P) (fun _ h => h) (fun k hP hk => hg3.block k hk (by simp)))
  have ht3 := ht.grown hg3
  have hPR : ¬ P (w.heap.size + 1) := fun h => by have := ht.lt _ h; omega
  have hg3H := Lib.hid hg3
  -- the call of tried
  have hsub : ∀ w5, W3.grownBy w5 none → Calls Tryd.prog 43 #[.func (.func 44) #[] #[.pointer (some ⟨w.heap.size + 1 + 1, 0, none⟩), .pointer (some ⟨w.heap.size, 0, none⟩)]] w5 fun e w6 =>
      e = .returned (.int .i64 (if okFs 1 [] x.f = true ∧ (wrapDoc (encFs x.f)).length ≤ 65536 then 0 else 1)) ∧ Step [] id id w w6 ∧ (okFs 1 [] x.f = true ∧ (wrapDoc (encFs x.f)).length ≤ 65536 → w6.heap[w.heap.size + 1 + 1]? = some (.cells #[.pointer (some ⟨w.heap.size + 1, 0, none⟩)] 66 (0, 0)) ∧ Wgh w6 (w.heap.size + 1) (wrapDoc (encFs x.f)).length) := fun w5 hg5 => by
    have hs35 := hg5.size
    have hl3 : w.heap.size + 1 + 1 < W3.heap.size := lt_of_block hQ
    have hgA : W3.grownBy (w5.alloc (.cells #[.int .i64 0] 27)) none := hg5.trans (World.grownBy_alloc _ _ none)
    have bk : ∀ k o, W3.heap[k]? = some o → (w5.alloc (.cells #[.int .i64 0] 27)).heap[k]? = some o := fun k o h => (hgA.block k (lt_of_block h) (by simp)).trans h
    have hpart := size_part (P := P) (V := w.heap.size) (Q := w.heap.size + 1 + 1) (R := w.heap.size + 1) (bk _ _ hV) (bk _ _ hQ) (bk _ _ hR) (hx3.out.keep (fun _ h => h) (fun k hP hk => hgA.block k hk (by simp))) (ht3.grown hgA) hPR
    have hcf : ∀ w0, (callFunc 44 #[.pointer (some ⟨w.heap.size + 1 + 1, 0, none⟩), .pointer (some ⟨w.heap.size, 0, none⟩)]).run Tryd.prog w0 = .ok (.enter 44 #[.pointer (some ⟨w.heap.size + 1 + 1, 0, none⟩), .pointer (some ⟨w.heap.size, 0, none⟩)]) w0 := fun _ => by simp [go_sem]
    have hT : w5.heap.size ∉ [w.heap.size + 1] := by simp; omega
    by_cases hok : okFs 1 [] x.f = true ∧ (wrapDoc (encFs x.f)).length ≤ 65536
    · rw [if_pos hok]
      refine (tried_ok 44 _ w5 (fun W => W.heap[w.heap.size + 1 + 1]? = some (.cells #[.pointer (some ⟨w.heap.size + 1, 0, none⟩)] 66 (0, 0)) ∧ Wgh W (w.heap.size + 1) (wrapDoc (encFs x.f)).length) [w.heap.size + 1] hT hcf (hpart.mono fun e w' h => ?_)).mono ?_
      · obtain ⟨rfl, hr, hst⟩ := h.good ⟨by omega, hok.1, by omega⟩
        rw [Nat.zero_add] at hr
        exact ⟨rfl, ⟨hst.at (bk _ _ hQ) (by simp), hr⟩, hst⟩
      · rintro e w6 ⟨rfl, w7, ⟨hq7, hr7⟩, hg7, hst7⟩
        refine ⟨rfl, ?_, fun _ => ⟨(hg7.block _ (lt_of_block hq7) (by simp; omega)).trans hq7, (hg7.block _ (lt_of_block hr7) (by simp; omega)).trans hr7⟩⟩
        exact ((Step.grown (hg3H.out.trans hg5) (fun _ h => by cases h)).tailNew hst7 (by simp))
    · rw [if_neg hok]
      refine (tried_broke 1 44 _ w5 (fun W => True) [w.heap.size + 1] hT hcf (hpart.mono fun e w' h => ?_)).mono ?_
      · obtain ⟨rfl, hr, hst⟩ := h.ill (fun h => hok ⟨h.2.1, by have := h.2.2; omega⟩)
        exact ⟨rfl, trivial, hst⟩
      · rintro e w6 ⟨rfl, w7, -, hg7, hst7⟩
        refine ⟨rfl, ?_, fun h => absurd h hok⟩
        exact ((Step.grown (hg3H.out.trans hg5) (fun _ h => by cases h)).tailNew hst7 (by simp))
  have hdoc : okDoc x = (decide (k0 = 6) && x.plain && okFs 1 [] x.f && decide ((wrapDoc (encFs x.f)).length ≤ 65536)) := by unfold okDoc; rw [hk0]
  have hdocH := Lib.hid hdoc
  have hSH := Lib.hid hS
  obtain ⟨pl, hpl⟩ : ∃ pl, x.plain = pl := ⟨_, rfl⟩
  have hp := Lib.hid hpl
  have hsubH := Lib.hid hsub
  clear hx ht hk0 z1 z2 hV hR hQ hg3 ht3 hsub hdoc hS hpl
  have hsub := fun w5 h => hsubH.out w5 h
  by_cases hk : k0 = 6
  rotate_left
  · have hS0 : S = 0 := by rw [hSH.out, sizeOf_, hdocH.out]; simp [hk]
    subst hS0
    clear hsub
    go_enter Tryd.func32, Tryd.ntmps32
    go_wp2_with fail
    go_ret
    exact ⟨rfl, by rw [← hW1, ← hW2, ← hW3]; exact .grown hg3H.out (fun _ h => by cases h)⟩
  subst hk
  cases pl
  · have hS0 : S = 0 := by rw [hSH.out, sizeOf_, hdocH.out, hp.out]; simp
    subst hS0
    have hsub := Lib.hid hsub
    go_enter Tryd.func32, Tryd.ntmps32
    go_wp2_with (go_at_call 42; rw [← hW1, ← hW2, ← hW3]; refine (bs_plain _ _ W3 hx3.out).mono ?_; rintro e w5 ⟨rfl, hg5⟩; rw [hp.out]; have hg5H := Lib.hid hg5; clear hg5)
    go_ret
    exact ⟨rfl, .grown (hg3H.out.trans hg5H.out) (fun _ h => by cases h)⟩
  by_cases hok : okFs 1 [] x.f = true ∧ (wrapDoc (encFs x.f)).length ≤ 65536
  · have hS0 : S = (wrapDoc (encFs x.f)).length := by rw [hSH.out, sizeOf_, hdocH.out, hp.out]; simp [hok.1, hok.2]
    have hokH := Lib.hid hok
    clear hok
    have hsub := Lib.hid (fun w5 h => (hsub w5 h).mono fun e w6 h => (show e = .returned (.int .i64 0) ∧ Step [] id id w w6 ∧ w6.heap[w.heap.size + 1 + 1]? = some (.cells #[.pointer (some ⟨w.heap.size + 1, 0, none⟩)] 66 (0, 0)) ∧ Wgh w6 (w.heap.size + 1) S from by
      rw [if_pos hokH.out] at h; rw [hS0]; exact ⟨h.1, h.2.1, h.2.2 hokH.out⟩))
    clear hS0
    go_enter Tryd.func32, Tryd.ntmps32
    go_wp2_with (first | (go_at_call 42; rw [← hW1, ← hW2, ← hW3]; refine (bs_plain _ _ W3 hx3.out).mono ?_; rintro e w5 ⟨rfl, hg5⟩; rw [hp.out]; have hg5H := Lib.hid hg5; clear hg5) | (go_at_call 43; refine (hsub.out _ hg5H.out).mono ?_; rintro e w6 ⟨rfl, hst6, hq6, hr6⟩; have c1 := cell_blk hq6 (i := 0) rfl; have c2 := cell_blk hr6 (i := 0) rfl; have hst6H := Lib.hid hst6; clear hst6 hq6 hr6))
    go_ret
    exact ⟨rfl, hst6H.out⟩
  · have hS0 : S = 0 := by
      rw [hSH.out, sizeOf_, hdocH.out, hp.out]
      rcases Classical.em (okFs 1 [] x.f = true) with h1 | h1
      · have h2 : ¬ (wrapDoc (encFs x.f)).length ≤ 65536 := fun h => hok ⟨h1, h⟩
        simp [h2]
      · simp [h1]
    subst hS0
    have hokH := Lib.hid hok
    clear hok
    have hsub := Lib.hid (fun w5 h => (hsub w5 h).mono fun e w6 h => (show e = .returned (.int .i64 1) ∧ Step [] id id w w6 from by
      rw [if_neg hokH.out] at h; exact ⟨h.1, h.2.1⟩))
    go_enter Tryd.func32, Tryd.ntmps32
    go_wp2_with (first | (go_at_call 42; rw [← hW1, ← hW2, ← hW3]; refine (bs_plain _ _ W3 hx3.out).mono ?_; rintro e w5 ⟨rfl, hg5⟩; rw [hp.out]; have hg5H := Lib.hid hg5; clear hg5) | (go_at_call 43; refine (hsub.out _ hg5H.out).mono ?_; rintro e w6 ⟨rfl, hst6⟩; have hst6H := Lib.hid hst6; clear hst6))
    go_ret
    exact ⟨rfl, hst6H.out⟩
theorem sizeOf_pos (x : Val) : 0 < sizeOf_ x ↔ okDoc x = true := by
  unfold sizeOf_
  have := wrapDoc_length (encFs x.f)
  split <;> simp_all
end Go.Proofs.YtembpajlllnncaaDoor
