/- Accumulators: Add. Accumulators: Size. Accumulators: all kinds alike: a state, New, one more value, what it comes to, its size. -/
import Derived.Test.YtembpajlllnncaaGreatDoorAcV
import Derived.Test.YtembpajlllnncaaGreatDoorAcZ
import Derived.Test.YtembpajlllnncaaGreatDoorAcSe
set_option linter.unusedVariables false
set_option linter.unusedSimpArgs false
namespace Go.Proofs.YtembpajlllnncaaGreatDoor
open Go.RowKit

set_option maxRecDepth 100000 in
set_option maxHeartbeats 4000000 in
/-- A value is added: what the state's function does, and one more if it took it. -/
theorem acc_add {w : World} {S : Nat} {K many size : Int} {v0 v1 v2 v3 v4 v5 k n s b f l : Value} {told : Bool} {R : Int → World → Prop} {T : List Nat} (hT : ∀ k ∈ T, k < w.heap.size) (h : StC w S K many v0 v1 v2 v3 v4 v5 size told) (hm : 0 ≤ many ∧ many ≤ 1000000000)
  (hcf : ∀ (args : Array Value) (w : World), (callFunc (addF K) args).run Tryz.prog w = .ok (.enter (addF K) args) w)
  (hf : ∀ W, Step [] id id w W → Calls Tryz.prog (addF K) #[.pointer (some ⟨S, 0, none⟩), .agg #[k, n, s, b, f, l]] W fun e w' => ∃ er, e = .returned (.int .i64 er) ∧ Step T id id W w' ∧ R er w' ∧ ∃ d0 d1 d2 d3 d4 d5 size', StC w' S K many d0 d1 d2 d3 d4 d5 size' told) :
  Calls Tryz.prog 12 #[.pointer (some ⟨S, 0, none⟩), .agg #[k, n, s, b, f, l]] w fun e w' => ∃ er w2, e = .returned (.int .i64 er) ∧ Step T id id w w2 ∧ R er w2 ∧ w' = if er = 0 then w2.setCell ⟨S, 1, none⟩ (.int .i64 (many + 1)) else w2 := by
 obtain ⟨F, hF⟩ : ∃ F, F = addF K := ⟨_, rfl⟩
 have hnf := fun w => nil_func F #[.pointer (some ⟨S, 0, none⟩)] #[] w
 rw [← hF] at hcf hf
 have hl := lt_of_block h
 obtain ⟨W1, hW1⟩ : ∃ W1, W1 = w.alloc (.cells #[k, n, s, b, f, l] 35) := ⟨_, rfl⟩
 have hs1 : Step [] id id w W1 := by rw [hW1]; exact Step.alloc _
 have hB := Lib.hid (show W1.heap[w.heap.size]? = some (.cells #[k, n, s, b, f, l] 35 (0, 0)) by rw [hW1]; exact heap_alloc_new w _)
 have c0 := cell_blk h (i := 0) rfl
 rw [← hF] at c0
 have e0 := cell_blk (hs1.at h (by simp)) (i := 0) rfl
 rw [← hF] at e0
 obtain ⟨b0, b1, b2, b3, b4, b5⟩ := cells6A hB.out
 have hW1H := Lib.hid hW1
 have hs1H := Lib.hid hs1
 have hfH := Lib.hid hf
 have hwrap : IntKind.i64.wrap (many + 1) = many + 1 := IntWalk.i64_in _ (by omega)
 have hTH := Lib.hid hT
 have hFH := Lib.hid hF
 clear h hF hf hs1 hW1 hm hT
 go_enter Tryz.func12, Tryz.ntmps12
 go_wp2_with fail
 rw [← hW1H.out]
 refine wp_region_held_drew (S := fun w' => w'.cell? ⟨S, 0, none⟩ = some (.func (.func F) #[.pointer (some ⟨S, 0, none⟩)] #[]) ∧ w'.cell? ⟨w.heap.size, 0, none⟩ = some k ∧ w'.cell? ⟨w.heap.size, 1, none⟩ = some n ∧ w'.cell? ⟨w.heap.size, 2, none⟩ = some s ∧ w'.cell? ⟨w.heap.size, 3, none⟩ = some b ∧ w'.cell? ⟨w.heap.size, 4, none⟩ = some f ∧ w'.cell? ⟨w.heap.size, 5, none⟩ = some l) (by kernel_rfl) ⟨e0, b0, b1, b2, b3, b4, b5⟩ (fun hHeld => ?_)
 refine tkH 0 ?_ rfl (by kernel_rfl) (fun _ _ _ h => h) ?_ hHeld ?_
 rotate_left
 ·intro w' hSw; (try dsimp only at hSw); go_simp
  all_goals (with_reducible rfl)
 simp only [zP, zO, zA, zB, zC, zD, zE, zF]
 refine tkH 1 ?_ rfl (by kernel_rfl) (fun _ _ _ h => h) ?_ hHeld ?_
 rotate_left
 ·intro w' hSw; (try dsimp only at hSw); go_simp
  all_goals (with_reducible rfl)
 simp only [zP, zO, zA, zB, zC, zD, zE, zF]
 refine tkH 2 ?_ rfl (by kernel_rfl) (fun _ _ _ h => h) ?_ hHeld ?_
 rotate_left
 ·intro w' hSw; (try dsimp only at hSw); go_simp
  all_goals (with_reducible rfl)
 simp only [zP, zO, zA, zB, zC, zD, zE, zF]
 refine tkH 3 ?_ rfl (by kernel_rfl) (fun _ _ _ h => h) ?_ hHeld ?_
 rotate_left
 ·intro w' hSw; (try dsimp only at hSw); go_simp
  all_goals (with_reducible rfl)
 simp only [zP, zO, zA, zB, zC, zD, zE, zF]
 refine tkH 4 ?_ rfl (by kernel_rfl) (fun _ _ _ h => h) ?_ hHeld ?_
 rotate_left
 ·intro w' hSw; (try dsimp only at hSw); go_simp
  all_goals (with_reducible rfl)
 simp only [zP, zO, zA, zB, zC, zD, zE, zF]
 refine wpAnyH_ready (rs := [5]) (by kernel_rfl) (by simp) ?_
 refine AllReadyH.cons (o := _) rfl (fun K hK => ?_) AllReadyH.nil
 go_simp
 refine (hfH.out _ (hs1H.out.tail Step.drew)).mono ?_
 rintro e w4 ⟨er, rfl, hs4, hR, d0, d1, d2, d3, d4, d5, size', hS4⟩
 have hB4 := hs4.at (hB.out : W1.drew.heap[w.heap.size]? = _) (fun h => Nat.lt_irrefl _ (hTH.out _ h))
 have g0 := cell_blk hS4 (i := 0) rfl
 rw [← hFH.out] at g0
 obtain ⟨b0, b1, b2, b3, b4, b5⟩ := cells6A hB4
 have g1 := cell_blk hS4 (i := 1) rfl
 have fS := free_blk hS4
 have hRH := Lib.hid hR
 have hs4H := Lib.hid (((hs1H.out.tail Step.drew).mono (fun _ h => by cases h)).tail hs4)
 have lS := lt_of_block hS4
 clear hs4 hR hS4 hB4
 go_wp2_with fail
 refine hK.out _ _ ?_ (fun hHeld => ?_)
 ·exact ⟨g0, b0, b1, b2, b3, b4, b5⟩
 clear hK K
 refine tkH 6 ?_ rfl (by kernel_rfl) (fun _ _ _ h => h) ?_ hHeld ?_
 rotate_left
 ·intro w' hSw; (try dsimp only at hSw); go_simp
  all_goals (with_reducible rfl)
 simp only [zP, zO, zA, zB, zC, zD, zE, zF]
 refine wpAnyH_done (by kernel_rfl) ?_ _
 by_cases her : er = 0
 ·subst her
  go_wp2_with fail
  go_ret
  exact ⟨0, w4, rfl, hs4H.out, hRH.out, by simp⟩
 ·have hb : (er == 0) = false := by rw [beq_eq_false_iff_ne]; exact her
  go_wp2_with fail
  go_ret
  exact ⟨er, w4, rfl, hs4H.out, hRH.out, by rw [if_neg her]⟩
end Go.Proofs.YtembpajlllnncaaGreatDoor
namespace Go.Proofs.YtembpajlllnncaaGreatDoor
open Go.RowKit

set_option maxRecDepth 100000 in
set_option maxHeartbeats 4000000 in
theorem acc_size {P : Nat → Prop} {w : World} {S : Nat} {K many size : Int} {x : Val} {v0 v1 v2 v3 v4 v5 : Value} {told : Bool} (h : StC w S K many v0 v1 v2 v3 v4 v5 size told) (hx : VIs P w x [v0, v1, v2, v3, v4, v5]) (ht : Tw w) (hz : 0 ≤ size ∧ size ≤ 100000) :
  Calls Tryz.prog 16 #[.pointer (some ⟨S, 0, none⟩)] w fun e w' => e = .returned (.int .i64 (if size > 0 then 16 + size else 16 + max 0 (ownV x))) ∧ Step [] id id w w' := by
 obtain ⟨F, hF⟩ : ∃ F, F = addF K := ⟨_, rfl⟩
 have hnf := fun w => nil_func F #[.pointer (some ⟨S, 0, none⟩)] #[] w
 have hl := lt_of_block h
 have c0 := cell_blk h (i := 0) rfl
 rw [← hF] at c0
 have c2 := cell_blk h (i := 2) rfl
 have c3 := cell_blk h (i := 3) rfl
 have c4 := cell_blk h (i := 4) rfl
 have c5 := cell_blk h (i := 5) rfl
 have c6 := cell_blk h (i := 6) rfl
 have c7 := cell_blk h (i := 7) rfl
 have c8 := cell_blk h (i := 8) rfl
 have hown := acc_own hx ht
 have hr := ownV_range x
 obtain ⟨N, hN⟩ : ∃ N, N = ownV x := ⟨_, rfl⟩
 rw [← hN] at hown hr ⊢
 have hownH := Lib.hid hown
 by_cases hs : size > 0
 ·rw [if_pos hs]
  have hsb : decide (size > 0) = true := decide_eq_true hs
  have hwr : IntKind.i64.wrap (16 + size) = 16 + size := IntWalk.i64_in _ (by omega)
  clear h hx ht hF hown hr hN hz hs
  go_enter Tryz.func16, Tryz.ntmps16
  go_wp2_with fail
  go_ret
  exact ⟨rfl, Step.refl _ _ _⟩
 ·rw [if_neg hs]
  have hsb : decide (size > 0) = false := decide_eq_false hs
  obtain ⟨Z, hZ⟩ : ∃ Z, Z = max 0 N := ⟨_, rfl⟩
  rw [← hZ]
  have hwr : IntKind.i64.wrap (16 + Z) = 16 + Z := IntWalk.i64_in _ (by omega)
  have hZ2 := hZ.symm
  clear h hx ht hF hown hr hN hz hs hZ
  go_enter Tryz.func16, Tryz.ntmps16
  go_wp2_with fail
  refine hownH.out.mono ?_
  rintro e w3 ⟨rfl, hs3⟩
  have hs3H := Lib.hid hs3
  clear hs3
  go_wp2_with fail
  go_ret
  exact ⟨rfl, hs3H.out⟩
end Go.Proofs.YtembpajlllnncaaGreatDoor
namespace Go.Proofs.YtembpajlllnncaaGreatDoor
open Go.RowKit

/-- These two are compared as they should be. -/
def CmpH (y z : Val) : Prop := ∀ (Q Q' : Nat → Prop) (W : World) (cs ds : List Value), VIs Q W y cs → VIs Q' W z ds → Calls Tryz.prog 42 #[.agg cs.toArray, .agg ds.toArray] W fun e w' => e = .returned (.int .i64 (cmpV y z)) ∧ Step [] id id W w'
theorem cmpV_flat {y z : Val} (h : clsOf y.kind ≠ clsOf z.kind ∨ ¬ (5 ≤ y.kind ∧ y.kind ≤ 9)) : cmpV y z = cmpK y.kind y.num z.kind z.num := by
 cases y with
 | mk k n s b f l =>
  cases z with
  | mk k2 n2 s2 b2 f2 l2 =>
   simp only [Val.kind, Val.num, cmpV, cmpK] at h ⊢
   by_cases hc : clsOf k = clsOf k2
   ·have hk := h.resolve_left (fun e => e hc)
    by_cases h1 : k = 3 ∨ k = 4 ∨ k = 10 ∨ k = 11
    ·simp [h1]
    ·simp [h1, show k ≠ 5 by omega, show k ≠ 6 by omega, show k ≠ 7 by omega, show k ≠ 8 by omega, show k ≠ 9 by omega]
   ·have h0 : sgnI (clsOf k) (clsOf k2) ≠ 0 := by
     unfold sgnI
     split
     ·omega
     ·split
      ·omega
      ·omega
    unfold orI
    rw [if_pos h0, if_pos h0]
theorem cmpH_flat {y z : Val} (h : clsOf y.kind ≠ clsOf z.kind ∨ ¬ (5 ≤ y.kind ∧ y.kind ≤ 9)) : CmpH y z := by
 intro Q Q' W cs ds hy hz
 obtain ⟨s0, ba, bn, bc, fa, fn, fc, la, ln, lc, hcs, -⟩ := hy.six
 obtain ⟨s1, ba1, bn1, bc1, fa1, fn1, fc1, la1, ln1, lc1, hds, -⟩ := hz.six
 rw [cmpV_flat h, hcs, hds]
 exact or_flat W h
/-- A state of a kind: what it keeps. -/
def AccIs (P : Nat → Prop) (w : World) (S : Nat) (K : Int) (st : ASt) (row : Option Nat) : Prop :=
 ((K = 6 ∨ K = 7) ∧ ∃ l, st.v = listV l ∧ AccL P w S K st.many l st.size row) ∨
 (¬ (K = 6 ∨ K = 7) ∧ row = none ∧ st.size = 0 ∧
  ∃ v0 v1 v2 v3 v4 v5, StC w S K st.many v0 v1 v2 v3 v4 v5 0 (decide (K = 8)) ∧ VIs (fun k => P k ∧ k ≠ S) w st.v [v0, v1, v2, v3, v4, v5] ∧
   (K = 1 → (st.v.kind = 3 ∨ st.v.kind = 4) ∧ st.v = .mk st.v.kind st.v.num [] [] [] [] ∧ inR st.v.num ∧ v2 = (.string ⟨#[]⟩) ∧ v3 = (.slice none 0 0) ∧ v4 = (.slice none 0 0) ∧ v5 = (.slice none 0 0)))
section
variable {P : Nat → Prop} {w w' : World} {S : Nat} {K : Int} {st : ASt} {row : Option Nat}
theorem AccL.keep {many size : Int} {l : List Val} {T : List Nat} (h : AccL P w S K many l size row) (hs : Step T id id w w') (hS : S ∉ T) (hr : ∀ k, row = some k → k ∉ T) (hT : ∀ k ∈ T, k < w.heap.size → ¬ P k) : AccL P w' S K many l size row := by
 obtain ⟨va, vc, xs, h1, h2, h3, h4, h5, h6, h7⟩ := h
 exact ⟨va, vc, xs, h1.step hs hS, h2, ownsRow_step h3 hs (fun k hk => hr k (by rw [h2]; exact hk)), h4.keep (fun _ _ h => h) (fun _ k hk hl => (hs.keep k hl (fun hm => hT k hm hl hk.1)).2), h5, h6, h7⟩
theorem AccIs.keep {T : List Nat} (h : AccIs P w S K st row) (hs : Step T id id w w') (hS : S ∉ T) (hr : ∀ k, row = some k → k ∉ T) (hT : ∀ k ∈ T, k < w.heap.size → ¬ P k) : AccIs P w' S K st row := by
 rcases h with ⟨hk, l, hv, h⟩ | ⟨hk, hn, hz, v0, v1, v2, v3, v4, v5, hst, hx, h1⟩
 ·exact .inl ⟨hk, l, hv, h.keep hs hS hr hT⟩
 ·exact .inr ⟨hk, hn, hz, v0, v1, v2, v3, v4, v5, hst.step hs hS, hx.keep (fun _ h => h) (fun k hk hl => (hs.keep k hl (fun hm => hT k hm hl hk.1)).2), h1⟩
theorem AccIs.step (h : AccIs P w S K st row) (hs : Step [] id id w w') : AccIs P w' S K st row := h.keep hs (by simp) (by simp) (by simp)
theorem AccIs.lt (h : AccIs P w S K st row) : S < w.heap.size ∧ ∀ k, row = some k → k < w.heap.size ∧ k ≠ S := by
 rcases h with ⟨hk, l, hv, va, vc, xs, h1, h2, h3, h4, h5, h6⟩ | ⟨hk, hn, hz, v0, v1, v2, v3, v4, v5, hst, hx, h1⟩
 ·exact ⟨lt_of_block h1, fun k hk => ⟨(World.ownsRow.lt h3 k (by rw [← h2]; exact hk)).2, fun e => h5 (by rw [hk, e])⟩⟩
 ·exact ⟨lt_of_block hst, fun k hk => by rw [hn] at hk; cases hk⟩
/-- Its ten cells, and its value. -/
theorem AccIs.cells (h : AccIs P w S K st row) : ∃ v0 v1 v2 v3 v4 v5, StC w S K st.many v0 v1 v2 v3 v4 v5 st.size (decide (K = 8)) ∧ VIs (fun _ => True) w st.v [v0, v1, v2, v3, v4, v5] ∧ 0 ≤ st.size ∧ st.size ≤ 65536 := by
 rcases h with ⟨hk, l, hv, va, vc, xs, h1, h2, h3, h4, h5, h6, h7, h8⟩ | ⟨hk, hn, hz, v0, v1, v2, v3, v4, v5, hst, hx, h1⟩
 ·have hd : decide (K = 8) = false := decide_eq_false (by omega)
  rw [hv, hd]
  obtain ⟨g1, g2, g3⟩ := h4.is (Q := fun _ => True) h3 (fun _ _ _ => trivial) (fun _ _ => trivial)
  have hl : l.length ≤ 140737488351232 := by omega
  refine ⟨_, _, _, _, _, _, h1, VIs.mk ⟨(.slice none 0 0), none, 0, va, vc, rfl, .inl ⟨none, 0, rfl, rfl, fun _ => rfl⟩, ⟨by simp [listV, Val.f], g2, fun _ => rfl, g3⟩, by simp [listV, Val.kind, Val.num], by simpa [listV, Val.s, Val.b, Val.f, Val.l] using hl, by simp [listV, Val.f, FIs], g1⟩, by omega, h8⟩
 ·rw [hz]
  exact ⟨v0, v1, v2, v3, v4, v5, hst, hx.keep (fun _ _ => trivial) (fun _ _ _ => rfl), by omega, by omega⟩
/-- One more was taken. -/
theorem AccIs.more {m : Int} (h : AccIs P w S K st row) (hm : m = (st.many : Int) + 1) : AccIs P (w.setCell ⟨S, 1, none⟩ (.int .i64 m)) S K { st with many := st.many + 1 } row := by
 subst hm
 have hs : Step [S] id id w (w.setCell ⟨S, 1, none⟩ (.int .i64 ((st.many : Int) + 1))) := Step.set _ _ (by simp)
 have hset : ∀ {many size : Int} {v0 v1 v2 v3 v4 v5 : Value} {b : Bool}, StC w S K many v0 v1 v2 v3 v4 v5 size b → StC (w.setCell ⟨S, 1, none⟩ (.int .i64 ((st.many : Int) + 1))) S K ((st.many : Int) + 1) v0 v1 v2 v3 v4 v5 size b := fun h => by
  have h7 := set_blk h 1 (.int .i64 ((st.many : Int) + 1))
  unfold StC
  simpa using h7
 rcases h with ⟨hk, l, hv, va, vc, xs, h1, h2, h3, h4, h5, h6⟩ | ⟨hk, hn, hz, v0, v1, v2, v3, v4, v5, hst, hx, h1⟩
 ·exact .inl ⟨hk, l, hv, va, vc, xs, hset h1, h2, ownsRow_step h3 hs (fun k hk => by simp; intro e; exact h5 (by rw [h2, ← e, ← hk])), h4.keep (fun _ _ h => h) (fun _ k hk hl => (hs.keep k hl (by simp; exact hk.2.1)).2), h5, h6⟩
 ·exact .inr ⟨hk, hn, hz, v0, v1, v2, v3, v4, v5, hset hst, hx.keep (fun _ h => h) (fun k hk hl => (hs.keep k hl (by simp; exact hk.2)).2), h1⟩
end
theorem stepA_many (K : Int) (st : ASt) (x : Val) : (stepA K st x).2.many = st.many := by
 simp only [stepA, pushA, betterA, apply_ite Prod.snd, apply_ite ASt.many, ite_self]
end Go.Proofs.YtembpajlllnncaaGreatDoor
