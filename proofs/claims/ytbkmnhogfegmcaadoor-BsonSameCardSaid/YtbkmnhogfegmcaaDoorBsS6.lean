/- bson: May, Encode. -/
import Derived.Test.YtbkmnhogfegmcaaDoorBsS5
set_option linter.unusedVariables false
set_option linter.unusedSimpArgs false
namespace Go.Proofs.YtbkmnhogfegmcaaDoor
open Go.RowKit

theorem sizeOf_pos (x : Val) : 0 < sizeOf_ x ↔ okDoc x = true := by
  unfold sizeOf_
  have := wrapDoc_length (encFs x.f)
  split <;> simp_all

set_option maxRecDepth 100000 in
set_option maxHeartbeats 2000000 in
theorem bs_may {P : Nat → Prop} {w : World} {x : Val} {cs : List Value} (hx : VIs P w x cs) (ht : Tabs P w) :
    Calls Tryd.prog 18 #[.agg cs.toArray] w fun e w' => e = .returned (.bool (okDoc x)) ∧ Step [] id id w w' := by
  obtain ⟨s0, ba, bn, bc, fa, fn, fc, la, ln, lc, hcs, -⟩ := hx.six
  obtain ⟨n0, hn0⟩ : ∃ k, k = x.num := ⟨_, rfl⟩
  obtain ⟨k0, hk0⟩ : ∃ k, k = x.kind := ⟨_, rfl⟩
  rw [← hk0, ← hn0] at hcs
  subst hcs
  obtain ⟨W1, hW1⟩ : ∃ W1, W1 = w.alloc (.cells #[.int .i64 k0, .int .i64 n0, .string s0, .slice ba bn bc, .slice fa fn fc, .slice la ln lc] 27) := ⟨_, rfl⟩
  have hV := Lib.hid (show W1.heap[w.heap.size]? = some (.cells #[.int .i64 k0, .int .i64 n0, .string s0, .slice ba bn bc, .slice fa fn fc, .slice la ln lc] 27 (0, 0)) by rw [hW1]; exact heap_alloc_new w _)
  have hg1 : w.grownBy W1 none := by rw [hW1]; exact World.grownBy_alloc w _ none
  have hx1 := Lib.hid (hx.keep (P2 := P) (fun _ h => h) (fun k hP hk => hg1.block k hk (by simp)))
  have ht1 := Lib.hid (ht.grown hg1)
  have hg1H := Lib.hid hg1
  clear hx ht hn0 hk0 hg1
  obtain ⟨S, hS⟩ : ∃ S, S = sizeOf_ x := ⟨_, rfl⟩
  have hp := sizeOf_pos x
  rw [← hS] at hp
  have hSH := Lib.hid hS
  clear hS
  cases hok : okDoc x
  · have h0 : ¬ 0 < S := by rw [hp, hok]; simp
    have hSi : S = 0 := by omega
    subst hSi
    clear hp
    go_enter Tryd.func18, Tryd.ntmps18
    go_wp2_with (go_at_call 15; rw [← hW1]; refine (bs_size hx1.out ht1.out).mono ?_; rintro e w2 ⟨rfl, hs2⟩; rw [← hSH.out]; have hs2H := Lib.hid hs2; clear hs2)
    go_ret
    exact ⟨rfl, (Step.grown hg1H.out (fun _ h => by cases h)).tail hs2H.out⟩
  · have h0 : 0 < S := by rw [hp]; exact hok
    have h1 : (0 : Int) < (S : Int) := by omega
    clear hp
    go_enter Tryd.func18, Tryd.ntmps18
    go_wp2_with (go_at_call 15; rw [← hW1]; refine (bs_size hx1.out ht1.out).mono ?_; rintro e w2 ⟨rfl, hs2⟩; rw [← hSH.out]; have hs2H := Lib.hid hs2; clear hs2)
    go_ret
    exact ⟨rfl, (Step.grown hg1H.out (fun _ h => by cases h)).tail hs2H.out⟩

/-- What Encode hands back: a new row of the bytes, or an error. -/
def EncP (w : World) (x : Val) (e : Ending) (w' : World) : Prop :=
  Step [] id id w w' ∧ ((okDoc x = true ∧ ∃ v, e = .returned (.tuple #[v, .int .i64 0]) ∧ Row w' v (wrapDoc (encFs x.f)) ∧ ∀ k, v.ownBlock = some k → w.heap.size ≤ k) ∨ (okDoc x = false ∧ e = .returned (.tuple #[.slice none 0 0, .int .i64 1])))
set_option maxRecDepth 100000 in
set_option maxHeartbeats 2000000 in
theorem bs_encode {P : Nat → Prop} {w : World} {x : Val} {cs : List Value} (hx : VIs P w x cs) (ht : Tabs P w) :
    Calls Tryd.prog 14 #[.agg cs.toArray] w (EncP w x) := by
  obtain ⟨bv, fa, fc, la, lc, hcs, hb', ⟨hfc', hlc', -⟩, -, -, hf', hl'⟩ := hx.cells
  obtain ⟨ba, bc, rfl⟩ := hb'.shape
  obtain ⟨n0, hn0⟩ : ∃ k, k = x.num := ⟨_, rfl⟩
  obtain ⟨k0, hk0⟩ : ∃ k, k = x.kind := ⟨_, rfl⟩
  obtain ⟨s0, hs0⟩ : ∃ k, k = strOf x.s := ⟨_, rfl⟩
  obtain ⟨bn, hbn⟩ : ∃ k, k = x.b.length := ⟨_, rfl⟩
  obtain ⟨ln, hln⟩ : ∃ k, k = x.l.length := ⟨_, rfl⟩
  rw [← hk0, ← hn0, ← hs0, ← hbn, ← hln] at hcs
  subst hcs
  obtain ⟨W1, hW1⟩ : ∃ W1, W1 = w.alloc (.cells #[.int .i64 k0, .int .i64 n0, .string s0, .slice ba bn bc, .slice fa x.f.length fc, .slice la ln lc] 27) := ⟨_, rfl⟩
  have hV := Lib.hid (show W1.heap[w.heap.size]? = some (.cells #[.int .i64 k0, .int .i64 n0, .string s0, .slice ba bn bc, .slice fa x.f.length fc, .slice la ln lc] 27 (0, 0)) by rw [hW1]; exact heap_alloc_new w _)
  have hg1 : w.grownBy W1 none := by rw [hW1]; exact World.grownBy_alloc w _ none
  have hx1 := Lib.hid (hx.keep (P2 := P) (fun _ h => h) (fun k hP hk => hg1.block k hk (by simp)))
  have ht1 := Lib.hid (ht.grown hg1)
  have hg1H := Lib.hid hg1
  clear hx ht hn0 hk0 hs0 hbn hln hg1
  have hfH := Lib.hid hf'
  have hok1 := Lib.hid (show okDoc x = true → (wrapDoc (encFs x.f)).length ≤ 65536 from fun h => by unfold okDoc at h; simp only [Bool.and_eq_true, decide_eq_true_eq] at h; exact h.2)
  have hF := fun (W : World) (hs : Step [] id id W1 W) (hok : okDoc x = true) => (enc_all 65536).1 P x.f fa fc (.slice none 0 0) [] W (hok1.out hok) hfc' (FIs.keep (fun _ h => h) (fun k hP hk => ((hs.keep k (Nat.lt_of_lt_of_le hk hg1H.out.size) (by simp)).2).trans (hg1H.out.block k hk (by simp))) x.f fa 0 hfH.out) (Row.nil W) (by have := hok1.out hok; simp; omega)
    (by have h := ht1.out.quiet hs; exact ⟨h.lt, h.powP, h.pow, fun k hk => by cases hk⟩)
  simp only [List.nil_append] at hF
  have hFH := Lib.hid hF
  obtain ⟨nf, hnf⟩ : ∃ nf, nf = x.f.length := ⟨_, rfl⟩
  rw [← hnf] at hW1 hV hx1 hFH ⊢
  clear hf' hl' hb' hF hnf
  cases hok : okDoc x
  · have hokH := Lib.hid hok
    clear hok
    go_enter Tryd.func14, Tryd.ntmps14
    go_wp2_with (go_at_call 18; rw [← hW1]; refine (bs_may hx1.out ht1.out).mono ?_; rintro e w2 ⟨rfl, hs2⟩; rw [hokH.out]; have hs2H := Lib.hid hs2; clear hs2)
    go_ret2
    exact ⟨(Step.grown hg1H.out (fun _ h => by cases h)).tail hs2H.out, .inr ⟨hokH.out, rfl⟩⟩
  · have hokH := Lib.hid hok
    clear hok
    go_enter Tryd.func14, Tryd.ntmps14
    go_wp2_with (first | (go_at_call 18; rw [← hW1]; refine (bs_may hx1.out ht1.out).mono ?_; rintro e w2 ⟨rfl, hs2⟩; rw [hokH.out]; have hv := hs2.at hV.out (by simp); have c4 := cell_blk hv (i := 4) rfl; have hs2H := Lib.hid hs2; clear hs2 hv) | (go_at_call 29; refine (hFH.out w2 hs2H.out hokH.out).mono ?_; rintro e w3 ⟨v3, rfl, hr3, hg3⟩; have hr3H := Lib.hid hr3; have hg3H := Lib.hid hg3; clear hr3 hg3))
    go_ret2
    have hs3 : Step [] id id w2 w3 := .grown hg3H.out.grown (fun k hk => by cases hk)
    refine ⟨((Step.grown hg1H.out (fun _ h => by cases h)).tail hs2H.out).tail hs3, .inl ⟨hokH.out, v3, rfl, hr3H.out, fun k hk => ?_⟩⟩
    rcases hg3H.out.own k hk with h | h
    · cases h
    · exact Nat.le_trans (Nat.le_trans hg1H.out.size hs2H.out.size) h
end Go.Proofs.YtbkmnhogfegmcaaDoor
