/- Accumulators: Kind. Accumulators: all kinds alike: New, one more value. Accumulators: all kinds alike: Add, Value, Size. Accumulators: states in a law: from the law's world on; awake. -/
import Derived.Test.YtembpajlllnncaaGreatDoorAcY
import Derived.Test.YtembpajlllnncaaGreatDoorAcK1
import Derived.Test.YtembpajlllnncaaGreatDoorAcA
import Derived.Test.YtembpajlllnncaaGreatDoorAcL
set_option linter.unusedVariables false
set_option linter.unusedSimpArgs false
namespace Go.Proofs.YtembpajlllnncaaGreatDoor
open Go.RowKit

/-- An accumulator's kind by its name. -/
def kindOf (s : Bs) : Int :=
 if s = [36, 115, 117, 109] then 1 else if s = [36, 109, 105, 110] then 2 else if s = [36, 109, 97, 120] then 3 else if s = [36, 102, 105, 114, 115, 116] then 4 else if s = [36, 108, 97, 115, 116] then 5 else if s = [36, 112, 117, 115, 104] then 6 else if s = [36, 97, 100, 100, 84, 111, 83, 101, 116] then 7 else if s = [36, 99, 111, 117, 110, 116] then 8 else 0
theorem list_dec (a b : Bs) : ((strOf a).toList == b) = decide (a = b) := by
 rw [strOf_toList, Bool.eq_iff_iff, beq_iff_eq, decide_eq_true_eq]
set_option maxRecDepth 100000 in
set_option maxHeartbeats 4000000 in
theorem acc_kind (s : Bs) (w : World) : Calls Tryz.prog 8 #[.string (strOf s)] w fun e w' => e = .returned (.int .i64 (kindOf s)) ∧ w = w' := by
 have g1 := list_dec s [36, 115, 117, 109]
 have g2 := list_dec s [36, 109, 105, 110]
 have g3 := list_dec s [36, 109, 97, 120]
 have g4 := list_dec s [36, 102, 105, 114, 115, 116]
 have g5 := list_dec s [36, 108, 97, 115, 116]
 have g6 := list_dec s [36, 112, 117, 115, 104]
 have g7 := list_dec s [36, 97, 100, 100, 84, 111, 83, 101, 116]
 have g8 := list_dec s [36, 99, 111, 117, 110, 116]
 obtain ⟨T, hT⟩ : ∃ T, T = strOf s := ⟨_, rfl⟩
 rw [← hT] at g1 g2 g3 g4 g5 g6 g7 g8 ⊢
 clear hT
 by_cases h1 : s = [36, 115, 117, 109]
 ·have hk : kindOf s = 1 := by rw [h1]; decide
  rw [hk]
  have f1 := g1.trans (decide_eq_true h1)
  clear hk g1 g2 g3 g4 g5 g6 g7 g8 h1
  go_enter Tryz.func8, Tryz.ntmps8
  go_wp2_with fail
  go_ret
  exact ⟨rfl, rfl⟩
 by_cases h2 : s = [36, 109, 105, 110]
 ·have hk : kindOf s = 2 := by rw [h2]; decide
  rw [hk]
  have f1 := g1.trans (decide_eq_false h1)
  have f2 := g2.trans (decide_eq_true h2)
  clear hk g1 g2 g3 g4 g5 g6 g7 g8 h1 h2
  go_enter Tryz.func8, Tryz.ntmps8
  go_wp2_with fail
  go_ret
  exact ⟨rfl, rfl⟩
 by_cases h3 : s = [36, 109, 97, 120]
 ·have hk : kindOf s = 3 := by rw [h3]; decide
  rw [hk]
  have f1 := g1.trans (decide_eq_false h1)
  have f2 := g2.trans (decide_eq_false h2)
  have f3 := g3.trans (decide_eq_true h3)
  clear hk g1 g2 g3 g4 g5 g6 g7 g8 h1 h2 h3
  go_enter Tryz.func8, Tryz.ntmps8
  go_wp2_with fail
  go_ret
  exact ⟨rfl, rfl⟩
 by_cases h4 : s = [36, 102, 105, 114, 115, 116]
 ·have hk : kindOf s = 4 := by rw [h4]; decide
  rw [hk]
  have f1 := g1.trans (decide_eq_false h1)
  have f2 := g2.trans (decide_eq_false h2)
  have f3 := g3.trans (decide_eq_false h3)
  have f4 := g4.trans (decide_eq_true h4)
  clear hk g1 g2 g3 g4 g5 g6 g7 g8 h1 h2 h3 h4
  go_enter Tryz.func8, Tryz.ntmps8
  go_wp2_with fail
  go_ret
  exact ⟨rfl, rfl⟩
 by_cases h5 : s = [36, 108, 97, 115, 116]
 ·have hk : kindOf s = 5 := by rw [h5]; decide
  rw [hk]
  have f1 := g1.trans (decide_eq_false h1)
  have f2 := g2.trans (decide_eq_false h2)
  have f3 := g3.trans (decide_eq_false h3)
  have f4 := g4.trans (decide_eq_false h4)
  have f5 := g5.trans (decide_eq_true h5)
  clear hk g1 g2 g3 g4 g5 g6 g7 g8 h1 h2 h3 h4 h5
  go_enter Tryz.func8, Tryz.ntmps8
  go_wp2_with fail
  go_ret
  exact ⟨rfl, rfl⟩
 by_cases h6 : s = [36, 112, 117, 115, 104]
 ·have hk : kindOf s = 6 := by rw [h6]; decide
  rw [hk]
  have f1 := g1.trans (decide_eq_false h1)
  have f2 := g2.trans (decide_eq_false h2)
  have f3 := g3.trans (decide_eq_false h3)
  have f4 := g4.trans (decide_eq_false h4)
  have f5 := g5.trans (decide_eq_false h5)
  have f6 := g6.trans (decide_eq_true h6)
  clear hk g1 g2 g3 g4 g5 g6 g7 g8 h1 h2 h3 h4 h5 h6
  go_enter Tryz.func8, Tryz.ntmps8
  go_wp2_with fail
  go_ret
  exact ⟨rfl, rfl⟩
 by_cases h7 : s = [36, 97, 100, 100, 84, 111, 83, 101, 116]
 ·have hk : kindOf s = 7 := by rw [h7]; decide
  rw [hk]
  have f1 := g1.trans (decide_eq_false h1)
  have f2 := g2.trans (decide_eq_false h2)
  have f3 := g3.trans (decide_eq_false h3)
  have f4 := g4.trans (decide_eq_false h4)
  have f5 := g5.trans (decide_eq_false h5)
  have f6 := g6.trans (decide_eq_false h6)
  have f7 := g7.trans (decide_eq_true h7)
  clear hk g1 g2 g3 g4 g5 g6 g7 g8 h1 h2 h3 h4 h5 h6 h7
  go_enter Tryz.func8, Tryz.ntmps8
  go_wp2_with fail
  go_ret
  exact ⟨rfl, rfl⟩
 by_cases h8 : s = [36, 99, 111, 117, 110, 116]
 ·have hk : kindOf s = 8 := by rw [h8]; decide
  rw [hk]
  have f1 := g1.trans (decide_eq_false h1)
  have f2 := g2.trans (decide_eq_false h2)
  have f3 := g3.trans (decide_eq_false h3)
  have f4 := g4.trans (decide_eq_false h4)
  have f5 := g5.trans (decide_eq_false h5)
  have f6 := g6.trans (decide_eq_false h6)
  have f7 := g7.trans (decide_eq_false h7)
  have f8 := g8.trans (decide_eq_true h8)
  clear hk g1 g2 g3 g4 g5 g6 g7 g8 h1 h2 h3 h4 h5 h6 h7 h8
  go_enter Tryz.func8, Tryz.ntmps8
  go_wp2_with fail
  go_ret
  exact ⟨rfl, rfl⟩
 have hk : kindOf s = 0 := by unfold kindOf; rw [if_neg h1, if_neg h2, if_neg h3, if_neg h4, if_neg h5, if_neg h6, if_neg h7, if_neg h8]
 rw [hk]
 have f1 := g1.trans (decide_eq_false h1)
 have f2 := g2.trans (decide_eq_false h2)
 have f3 := g3.trans (decide_eq_false h3)
 have f4 := g4.trans (decide_eq_false h4)
 have f5 := g5.trans (decide_eq_false h5)
 have f6 := g6.trans (decide_eq_false h6)
 have f7 := g7.trans (decide_eq_false h7)
 have f8 := g8.trans (decide_eq_false h8)
 clear hk g1 g2 g3 g4 g5 g6 g7 g8 h1 h2 h3 h4 h5 h6 h7 h8
 go_enter Tryz.func8, Tryz.ntmps8
 go_wp2_with fail
 go_ret
 exact ⟨rfl, rfl⟩
end Go.Proofs.YtembpajlllnncaaGreatDoor
namespace Go.Proofs.YtembpajlllnncaaGreatDoor
open Go.RowKit

theorem accL_new {P : Nat → Prop} {w : World} {S : Nat} {K : Int} (h : StC w S K 0 (.int .i64 7) (.int .i64 0) (.string ⟨#[]⟩) (.slice none 0 0) (.slice none 0 0) (.slice none 0 0) 5 false) : AccL P w S K 0 [] 5 none :=
 ⟨none, 0, [], h, rfl, ⟨by simp, .inl ⟨rfl, rfl⟩⟩, ⟨rfl, fun i hi => by simp at hi⟩, by simp, by simp, by simp, by omega⟩
/-- A new state. -/
theorem new_all {P : Nat → Prop} {w : World} {K : Int} (hK : 1 ≤ K ∧ K ≤ 8) (ht : Tw w) : Calls Tryz.prog 6 #[.int .i64 K] w fun e w' => e = .returned (.pointer (some ⟨w.heap.size, 0, none⟩)) ∧ AccIs P w' w.heap.size K (startA K) none ∧ Step [] id id w w' := by
 have hflat : ∀ {w' : World} {Q : Nat → Prop} (k : Int), (k = 0 ∨ k = 3) → VIs Q w' (.mk k 0 [] [] [] []) [.int .i64 k, .int .i64 0, (.string ⟨#[]⟩), (.slice none 0 0), (.slice none 0 0), (.slice none 0 0)] := fun k hk => VIs.flat (k := k) (n := 0) [] (by omega) (by omega) (by simp)
 obtain rfl | rfl | rfl | rfl | rfl | rfl | rfl | rfl : K = 1 ∨ K = 2 ∨ K = 3 ∨ K = 4 ∨ K = 5 ∨ K = 6 ∨ K = 7 ∨ K = 8 := by omega
 ·exact (new_sum w).mono fun e w' h => ⟨h.1, .inr ⟨by decide, rfl, by decide, _, _, _, _, _, _, h.2.1, hflat 3 (.inr rfl), fun _ => ⟨.inl rfl, rfl, by decide, rfl, rfl, rfl, rfl⟩⟩, h.2.2⟩
 ·exact (new_least w).mono fun e w' h => ⟨h.1, .inr ⟨by decide, rfl, by decide, _, _, _, _, _, _, h.2.1, hflat 0 (.inl rfl), fun h => by cases h⟩, h.2.2⟩
 ·exact (new_greatest w).mono fun e w' h => ⟨h.1, .inr ⟨by decide, rfl, by decide, _, _, _, _, _, _, h.2.1, hflat 0 (.inl rfl), fun h => by cases h⟩, h.2.2⟩
 ·exact (new_first w).mono fun e w' h => ⟨h.1, .inr ⟨by decide, rfl, by decide, _, _, _, _, _, _, h.2.1, hflat 0 (.inl rfl), fun h => by cases h⟩, h.2.2⟩
 ·exact (new_last w).mono fun e w' h => ⟨h.1, .inr ⟨by decide, rfl, by decide, _, _, _, _, _, _, h.2.1, hflat 0 (.inl rfl), fun h => by cases h⟩, h.2.2⟩
 ·exact (new_push w ht).mono fun e w' h => ⟨h.1, .inl ⟨.inl rfl, [], rfl, accL_new h.2.1⟩, h.2.2⟩
 ·exact (new_set w ht).mono fun e w' h => ⟨h.1, .inl ⟨.inr rfl, [], rfl, accL_new h.2.1⟩, h.2.2⟩
 ·exact (new_count w).mono fun e w' h => ⟨h.1, .inr ⟨by decide, rfl, by decide, _, _, _, _, _, _, h.2.1, hflat 0 (.inl rfl), fun h => by cases h⟩, h.2.2⟩
/-- A value came: the answer, the state. -/
def StepP (P : Nat → Prop) (S : Nat) (K : Int) (st : ASt) (row : Option Nat) (x : Val) (w : World) (e : Ending) (w' : World) : Prop :=
 e = .returned (.int .i64 (stepA K st x).1) ∧ ∃ row', AccIs P w' S K (stepA K st x).2 row' ∧ Step (S :: row.toList) id id w w' ∧ (row' = row ∨ ∃ k, row' = some k ∧ w.heap.size ≤ k)
section
variable {P Q : Nat → Prop} {w : World} {S : Nat} {K : Int} {st : ASt} {row : Option Nat} {x : Val} {cs : List Value}
theorem StepP.same {e : Ending} {w' : World} (h : AccIs P w S K st row) (hr : (stepA K st x) = (0, st)) (he : e = .returned (.int .i64 0)) (hs : Step [] id id w w') : StepP P S K st row x w e w' := by
 unfold StepP
 rw [hr]
 exact ⟨he, row, h.step hs, hs.mono (fun _ h => by cases h), .inl rfl⟩
/-- A list takes it. -/
theorem push_all (h : AccIs P w S K st row) (hK : K = 6 ∨ K = 7) (hx : VIs Q w x cs) (hQ : ∀ k, Q k → k ≠ S) (hwt : weightV x ≤ 100000000) (ht : Tw w) (hP : ∀ k, w.heap.size ≤ k → P k) :
  Calls Tryz.prog 27 #[.pointer (some ⟨S, 0, none⟩), .agg cs.toArray] w fun e w' => e = .returned (.int .i64 (pushA st x).1) ∧ ∃ row', AccIs P w' S K (pushA st x).2 row' ∧ Step (S :: row.toList) id id w w' ∧ (row' = row ∨ ∃ k, row' = some k ∧ w.heap.size ≤ k) := by
 obtain ⟨-, l, hv, hA⟩ := h.resolve_right (fun h => h.1 hK)
 have hsame : ∀ w', Step [] id id w w' → AccIs P w' S K st row := fun w' hs => h.step hs
 have hvl : st.v.l = l := by rw [hv]; rfl
 have hm0 : ∀ {w' : World}, Step [] id id w w' → Step (S :: row.toList) id id w w' := fun hs => hs.mono (fun _ h => by cases h)
 unfold pushA
 rw [hvl]
 by_cases h0 : x.kind = 0
 ·rw [if_pos h0]
  obtain ⟨s0, ba, bn, bc, fa, fn, fc, la, ln, lc, hcs, -⟩ := hx.six
  rw [hcs, h0]
  exact push_none.mono fun e w' h => ⟨h.1, row, hsame _ h.2, hm0 h.2, .inl rfl⟩
 rw [if_neg h0]
 by_cases h1 : ownV (listV [x]) < 0
 ·rw [if_pos h1]
  exact (push_bad hx ht h0 h1).mono fun e w' h => ⟨h.1, row, hsame _ h.2, hm0 h.2, .inl rfl⟩
 rw [if_neg h1]
 by_cases h2 : st.size + moreV x l.length + 7 > 65536
 ·rw [if_pos h2]
  exact (push_long hA hx ht h0 h1 h2).mono fun e w' h => ⟨h.1, row, hsame _ h.2, hm0 h.2, .inl rfl⟩
 rw [if_neg h2]
 exact (push_ok hA hx hQ ht h0 h1 h2 hwt hP).mono fun e w' ⟨he, row', hA', hs, hr⟩ => ⟨he, row', .inl ⟨hK, _, rfl, hA'⟩, hs, hr⟩
/-- What is better is kept. -/
theorem better_all {m : Int} (h : AccIs P w S K st row) (hK : K = 2 ∨ K = 3) (hx : VIs Q w x cs) (hwt : weightV x ≤ 100000000) (hP : ∀ k, w.heap.size ≤ k → P k) (hcm : st.v.kind ≠ 0 → CmpH x st.v) :
  Calls Tryz.prog 39 #[.pointer (some ⟨S, 0, none⟩), .agg cs.toArray, .int .i64 m] w fun e w' => e = .returned (.tuple #[]) ∧ AccIs P w' S K (betterA st x m) row ∧ Step [S] id id w w' := by
 have hlt := h.lt
 have h' := h
 obtain ⟨hk, hn, hz, v0, v1, v2, v3, v4, v5, hst, hv, h1⟩ := h.resolve_left (fun h => by have := h.1; omega)
 have hd : decide (K = 8) = false := decide_eq_false (by omega)
 rw [hd] at hst
 obtain ⟨s0, ba, bn, bc, fa, fn, fc, la, ln, lc, hcs, -⟩ := hx.six
 obtain ⟨s1, ba1, bn1, bc1, fa1, fn1, fc1, la1, ln1, lc1, hds, -⟩ := hv.six
 have hsame : ∀ {e : Ending} {w' : World}, SameP w e w' → e = .returned (.tuple #[]) ∧ AccIs P w' S K st row ∧ Step [S] id id w w' := fun hS => ⟨hS.1, h'.step hS.2, hS.2.mono (fun _ h => by cases h)⟩
 have hkeep : ∀ {e : Ending} {w' : World}, KeepB S K st.many x w e w' → e = .returned (.tuple #[]) ∧ AccIs P w' S K { st with v := x } row ∧ Step [S] id id w w' := fun hS => by
  obtain ⟨he, hs, d0, d1, d2, d3, d4, d5, hst', hxd⟩ := hS
  exact ⟨he, .inr ⟨hk, hn, hz, _, _, _, _, _, _, by rw [hd]; exact hst', hxd.keep (fun k hk => ⟨hP k hk, by omega⟩) (fun _ _ _ => rfl), fun h => by omega⟩, hs⟩
 unfold betterA
 by_cases h0 : x.kind = 0 ∨ x.kind = 2
 ·rw [if_pos h0, hcs]
  exact (better_none h0).mono fun e w' hS => hsame hS
 rw [if_neg h0]
 by_cases hv0 : st.v.kind = 0
 ·rw [if_pos (.inl hv0)]
  injection hds with e0 hds
  injection hds with e1 hds
  rw [hv0] at e0
  subst e0 e1
  exact (better_first hst hx hwt h0).mono fun e w' hS => hkeep hS
 have hc := hcm hv0
 have hcW := fun W (hs : Step [] id id w W) => hc _ _ W _ _ (hx.low.onto hs) (hv.low.onto hs)
 injection hds with e0 hds
 injection hds with e1 hds
 subst e0 e1
 by_cases hcc : cmpV x st.v = m
 ·rw [if_pos (.inr hcc)]
  rw [hcc] at hcW
  exact (better_yes m hst hx hwt h0 hv0 hcW).mono fun e w' hS => hkeep hS
 ·rw [if_neg (fun h => h.elim hv0 hcc), hcs]
  rw [hcs] at hcW
  exact (better_not (ba := ba) (fa := fa) (la := la) (s0 := s0) (bn := bn) (bc := bc) (fn := fn) (fc := fc) (ln := ln) (lc := lc) hst h0 hv0 hcW hcc).mono fun e w' hS => hsame hS
theorem step_all (hK : 1 ≤ K ∧ K ≤ 8) (h : AccIs P w S K st row) (hx : VIs Q w x cs) (hQ : ∀ k, Q k → k ≠ S) (hwt : weightV x ≤ 100000000) (ht : Tw w) (hP : ∀ k, w.heap.size ≤ k → P k)
  (hcm : (K = 2 ∨ K = 3) ∧ st.v.kind ≠ 0 → CmpH x st.v) (hcm7 : K = 7 → x.kind ≠ 0 → ∀ y ∈ st.v.l, CmpH y x) :
  Calls Tryz.prog (addF K) #[.pointer (some ⟨S, 0, none⟩), .agg cs.toArray] w (StepP P S K st row x w) := by
 have hlt := h.lt
 have hcs := hx.six
 obtain ⟨s0, ba, bn, bc, fa, fn, fc, la, ln, lc, hcs, -⟩ := hcs
 have hnr : inR x.num := by
  obtain ⟨bv, fa, fc, la, lc, -, -, -, h4, -⟩ := hx.cells
  exact h4.2.2
 obtain rfl | rfl | rfl | rfl | rfl | rfl | rfl | rfl : K = 1 ∨ K = 2 ∨ K = 3 ∨ K = 4 ∨ K = 5 ∨ K = 6 ∨ K = 7 ∨ K = 8 := by omega
 -- sum
 ·obtain ⟨hk, hn, hz, v0, v1, v2, v3, v4, v5, hst, hv, h1⟩ := h.resolve_left (fun h => by have := h.1; omega)
  obtain ⟨hk0, hvv, hr0, rfl, rfl, rfl, rfl⟩ := h1 rfl
  by_cases hxk : x.kind = 3 ∨ x.kind = 4
  ·obtain ⟨s1, ba1, bn1, bc1, fa1, fn1, fc1, la1, ln1, lc1, hds, -⟩ := hv.six
   injection hds with e0 hds
   injection hds with e1 hds
   subst e0 e1
   rw [hcs]
   refine (sum_num hst hk0 hr0 hxk hnr).mono fun e w' hS => ?_
   unfold SumA at hS
   unfold StepP
   by_cases hr : inR (st.v.num + x.num)
   ·rw [if_pos hr] at hS
    obtain ⟨rfl, hs, hst'⟩ := hS
    have hA : stepA 1 st x = (0, { st with v := .mk (if st.v.kind = 4 ∨ x.kind = 4 then 4 else kindI (st.v.num + x.num)) (st.v.num + x.num) [] [] [] [] }) := by
     unfold stepA; rw [if_pos rfl, if_pos hxk, if_pos hr]
    rw [hA]
    obtain ⟨kk, hkk⟩ : ∃ kk, kk = (if st.v.kind = 4 ∨ x.kind = 4 then 4 else kindI (st.v.num + x.num)) := ⟨_, rfl⟩
    have hk34 : kk = 3 ∨ kk = 4 := by
     rw [hkk]
     split
     ·exact .inr rfl
     ·unfold kindI; split
      ·exact .inl rfl
      ·exact .inr rfl
    rw [← hkk] at hst' ⊢
    exact ⟨rfl, none, .inr ⟨by decide, rfl, hz, _, _, _, _, _, _, hst', VIs.flat (k := kk) [] (by omega) hr (by simp), fun _ => ⟨hk34, rfl, hr, rfl, rfl, rfl, rfl⟩⟩, hs.mono (by simp), .inl hn.symm⟩
   ·rw [if_neg hr] at hS
    obtain ⟨rfl, hs⟩ := hS
    have hA : stepA 1 st x = (10, st) := by unfold stepA; rw [if_pos rfl, if_pos hxk, if_neg hr]
    rw [hA]
    exact ⟨rfl, row, h.step hs, hs.mono (fun _ h => by cases h), .inl rfl⟩
  ·rw [hcs]
   exact (sum_other hxk).mono fun e w' hS => StepP.same h (by unfold stepA; rw [if_pos rfl, if_neg hxk]) hS.1 hS.2
 -- least, greatest
 ·rw [hcs]
  have hs1 : Step [] id id w (w.alloc (.cells #[.int .i64 x.kind, .int .i64 x.num, .string s0, .slice ba bn bc, .slice fa fn fc, .slice la ln lc] 35)) := Step.alloc _
  have hz1 := hs1.size
  have hb := better_all (m := -1) (h.step hs1) (.inl rfl) (hx.low.onto hs1) hwt (fun k hk => hP k (by omega)) (fun hv => hcm ⟨.inl rfl, hv⟩)
  rw [hcs] at hb
  refine (acc_least hb).mono fun e w' hS => ?_
  obtain ⟨rfl, hA', hs⟩ := hS
  have hA : stepA 2 st x = (0, betterA st x (-1)) := by unfold stepA; rw [if_neg (by decide), if_pos rfl]
  unfold StepP
  rw [hA]
  exact ⟨rfl, row, hA', (hs1.mono (fun _ h => by cases h)).tail (hs.mono (by simp)), .inl rfl⟩
 ·rw [hcs]
  have hs1 : Step [] id id w (w.alloc (.cells #[.int .i64 x.kind, .int .i64 x.num, .string s0, .slice ba bn bc, .slice fa fn fc, .slice la ln lc] 35)) := Step.alloc _
  have hz1 := hs1.size
  have hb := better_all (m := 1) (h.step hs1) (.inr rfl) (hx.low.onto hs1) hwt (fun k hk => hP k (by omega)) (fun hv => hcm ⟨.inr rfl, hv⟩)
  rw [hcs] at hb
  refine (acc_greatest hb).mono fun e w' hS => ?_
  obtain ⟨rfl, hA', hs⟩ := hS
  have hA : stepA 3 st x = (0, betterA st x (1)) := by unfold stepA; rw [if_neg (by decide), if_neg (by decide), if_pos rfl]
  unfold StepP
  rw [hA]
  exact ⟨rfl, row, hA', (hs1.mono (fun _ h => by cases h)).tail (hs.mono (by simp)), .inl rfl⟩
 -- first
 ·obtain ⟨hk, hn, hz, v0, v1, v2, v3, v4, v5, hst, hv, h1⟩ := h.resolve_left (fun h => by have := h.1; omega)
  by_cases hm : st.many = 0
  ·rw [hm] at hst
   refine (acc_first hst hx hwt).mono fun e w' hS => ?_
   obtain ⟨rfl, hs, d0, d1, d2, d3, d4, d5, hst', hxd⟩ := hS
   have hA : stepA 4 st x = (0, { st with v := x }) := by unfold stepA; rw [if_neg (by decide), if_neg (by decide), if_neg (by decide), if_pos rfl, if_pos hm]
   unfold StepP
   rw [hA]
   exact ⟨rfl, none, .inr ⟨by decide, rfl, hz, _, _, _, _, _, _, by simpa [hm] using hst', hxd.keep (fun k hk => ⟨hP k hk, by omega⟩) (fun _ _ _ => rfl), fun h => by cases h⟩, hs.mono (by simp), .inl hn.symm⟩
  ·have hx' : (st.many : Int) ≠ 0 := by omega
   exact (acc_first2 hst hx').mono fun e w' hS => StepP.same h (by unfold stepA; rw [if_neg (by decide), if_neg (by decide), if_neg (by decide), if_pos rfl, if_neg hm]) hS.1 hS.2
 -- last
 ·obtain ⟨hk, hn, hz, v0, v1, v2, v3, v4, v5, hst, hv, h1⟩ := h.resolve_left (fun h => by have := h.1; omega)
  refine (acc_last hst hx hwt).mono fun e w' hS => ?_
  obtain ⟨rfl, hs, d0, d1, d2, d3, d4, d5, hst', hxd⟩ := hS
  have hA : stepA 5 st x = (0, { st with v := x }) := by unfold stepA; rw [if_neg (by decide), if_neg (by decide), if_neg (by decide), if_neg (by decide), if_pos rfl]
  unfold StepP
  rw [hA]
  exact ⟨rfl, none, .inr ⟨by decide, rfl, hz, _, _, _, _, _, _, hst', hxd.keep (fun k hk => ⟨hP k hk, by omega⟩) (fun _ _ _ => rfl), fun h => by cases h⟩, hs.mono (by simp), .inl hn.symm⟩
 -- push
 ·exact push_all h (.inl rfl) hx hQ hwt ht hP
 -- set
 ·obtain ⟨-, l, hv, hA⟩ := h.resolve_right (fun h => h.1 (.inr rfl))
  have hvl : st.v.l = l := by rw [hv]; rfl
  refine acc_set (R := StepP P S 7 st row x w) hA hx (fun j hj W ds Q' hs hd => ?_) (fun h0 hf W hs => ?_) (fun hno W hs => ?_)
  ·have hc : CmpH l[j] x := by
    by_cases h0 : x.kind = 0
    ·refine cmpH_flat ?_
     by_cases h5 : 5 ≤ l[j].kind ∧ l[j].kind ≤ 9
     ·left
      rw [h0]
      unfold clsOf
      rw [if_neg (by omega), if_neg (by omega), if_pos (by omega), if_pos (by omega)]
      omega
     ·exact .inr h5
    ·exact hcm7 rfl h0 _ (by rw [hvl]; exact List.getElem_mem hj)
   exact hc _ _ _ _ _ hd (hx.low.onto hs)
  ·obtain ⟨j, hj, hc⟩ := hf
   refine StepP.same h ?_ rfl hs
   unfold stepA
   rw [if_neg (by decide), if_neg (by decide), if_neg (by decide), if_neg (by decide), if_neg (by decide), if_neg (by decide), if_pos rfl, if_pos ⟨h0, by rw [hvl, List.any_eq_true]; exact ⟨_, List.getElem_mem hj, by simpa using hc⟩⟩]
  ·have hA7 : stepA 7 st x = pushA st x := by
    unfold stepA
    rw [if_neg (by decide), if_neg (by decide), if_neg (by decide), if_neg (by decide), if_neg (by decide), if_neg (by decide), if_pos rfl, if_neg ?_]
    rintro ⟨h0, ha⟩
    rw [hvl, List.any_eq_true] at ha
    obtain ⟨y, hy, hc⟩ := ha
    obtain ⟨j, hj, rfl⟩ := List.getElem_of_mem hy
    exact hno.resolve_left h0 j hj (by simpa using hc)
   have hb := hs.size
   refine (push_all (h.step hs) (.inr rfl) (hx.below.keep (P2 := fun k => k ≠ S) (fun k hk => hQ k hk.1) (fun k _ hk => (hs.keep k hk (by simp)).2)) (fun _ h => h) hwt (ht.step hs) (fun k hk => hP k (by omega))).mono fun e w' hp => ?_
   obtain ⟨rfl, row', hA', hs', hr⟩ := hp
   refine ⟨⟨_, rfl⟩, ?_⟩
   unfold StepP
   rw [hA7]
   exact ⟨rfl, row', hA', (hs.mono (fun _ h => by cases h)).tail hs', hr.imp id (fun ⟨k, h1, h2⟩ => ⟨k, h1, by omega⟩)⟩
 -- count
 ·exact acc_none.mono fun e w' hS => StepP.same h (by unfold stepA; rw [if_neg (by decide), if_neg (by decide), if_neg (by decide), if_neg (by decide), if_neg (by decide), if_neg (by decide), if_neg (by decide)]) hS.1 hS.2
end
end Go.Proofs.YtembpajlllnncaaGreatDoor
namespace Go.Proofs.YtembpajlllnncaaGreatDoor
open Go.RowKit

section
variable {P Q : Nat → Prop} {w : World} {S : Nat} {K : Int} {st : ASt} {row : Option Nat} {x : Val} {cs : List Value}
/-- A value was added. -/
def AddP (P : Nat → Prop) (S : Nat) (K : Int) (st : ASt) (row : Option Nat) (x : Val) (w : World) (e : Ending) (w' : World) : Prop :=
 e = .returned (.int .i64 (addA K st x).1) ∧ ∃ row', AccIs P w' S K (addA K st x).2 row' ∧ Step (S :: row.toList) id id w w' ∧ (row' = row ∨ ∃ k, row' = some k ∧ w.heap.size ≤ k)
theorem addF_call (K : Int) (hK : 1 ≤ K ∧ K ≤ 8) : ∀ (args : Array Value) (w : World), (callFunc (addF K) args).run Tryz.prog w = .ok (.enter (addF K) args) w := by
 obtain rfl | rfl | rfl | rfl | rfl | rfl | rfl | rfl : K = 1 ∨ K = 2 ∨ K = 3 ∨ K = 4 ∨ K = 5 ∨ K = 6 ∨ K = 7 ∨ K = 8 := by omega
 all_goals (intro args w; kernel_rfl)
theorem add_all (hK : 1 ≤ K ∧ K ≤ 8) (h : AccIs P w S K st row) (hm : st.many ≤ 1000000000) (hx : VIs Q w x cs) (hQ : ∀ k, Q k → k ≠ S) (hwt : weightV x ≤ 100000000) (ht : Tw w) (hP : ∀ k, w.heap.size ≤ k → P k)
  (hcm : (K = 2 ∨ K = 3) ∧ st.v.kind ≠ 0 → CmpH x st.v) (hcm7 : K = 7 → x.kind ≠ 0 → ∀ y ∈ st.v.l, CmpH y x) :
  Calls Tryz.prog 12 #[.pointer (some ⟨S, 0, none⟩), .agg cs.toArray] w (AddP P S K st row x w) := by
 have hlt := h.lt
 obtain ⟨s0, ba, bn, bc, fa, fn, fc, la, ln, lc, hcs, -⟩ := hx.six
 obtain ⟨v0, v1, v2, v3, v4, v5, hst, -, -, -⟩ := h.cells
 have hstep := fun (W : World) (hs : Step [] id id w W) => step_all hK (h.step hs) (hx.below.keep (P2 := fun k => k ≠ S) (w' := W) (fun k hk => hQ k hk.1) (fun k _ hk => (hs.keep k hk (by simp)).2)) (fun _ h => h) hwt (ht.step hs) (fun k hk => hP k (by have := hs.size; omega)) hcm hcm7
 rw [hcs] at hstep ⊢
 refine (acc_add (T := S :: row.toList) (R := fun er w' => er = (stepA K st x).1 ∧ ∃ row', AccIs P w' S K (stepA K st x).2 row' ∧ (row' = row ∨ ∃ k, row' = some k ∧ w.heap.size ≤ k)) (fun k hk => ?_) hst (by omega) (addF_call K hK) (fun W hs => (hstep W hs).mono fun e w' hS => ?_)).mono fun e w' hS => ?_
 ·rcases List.mem_cons.1 hk with rfl | hk
  ·exact hlt.1
  ·exact (hlt.2 k (by simpa using hk)).1
 ·obtain ⟨rfl, row', hA, hs', hr⟩ := hS
  have hz := hs.size
  refine ⟨_, rfl, hs', ⟨rfl, row', hA, hr.imp id (fun ⟨k, h1, h2⟩ => ⟨k, h1, by omega⟩)⟩, ?_⟩
  obtain ⟨d0, d1, d2, d3, d4, d5, h1, -, -, -⟩ := hA.cells
  rw [stepA_many] at h1
  exact ⟨d0, d1, d2, d3, d4, d5, _, h1⟩
 ·obtain ⟨er, w2, rfl, hs, ⟨rfl, row', hA, hr⟩, rfl⟩ := hS
  unfold AddP addA
  by_cases h0 : (stepA K st x).1 = 0
  ·simp only [h0, if_true]
   refine ⟨trivial, row', hA.more (by rw [stepA_many]), hs.tail (Step.set _ _ (by simp)), hr⟩
  ·simp only [h0, if_false]
   exact ⟨trivial, row', hA, hs, hr⟩
/-- What it comes to. -/
theorem value_all (hK : 1 ≤ K ∧ K ≤ 8) (h : AccIs P w S K st row) (hm : st.many ≤ 1000000000) (hwt : weightV st.v ≤ 100000000) :
  Calls Tryz.prog 14 #[.pointer (some ⟨S, 0, none⟩)] w fun e w' => ∃ ds : List Value, e = .returned (.agg ds.toArray) ∧ VIs (fun k => w.heap.size ≤ k) w' (valueA K st) ds ∧ Step [] id id w w' := by
 obtain ⟨v0, v1, v2, v3, v4, v5, hst, hv, -, -⟩ := h.cells
 unfold valueA
 by_cases h8 : K = 8
 ·rw [if_pos h8]
  rw [decide_eq_true h8] at hst
  have hmr : inR st.many := by unfold inR; omega
  refine (value_told hst hmr).mono fun e w' hS => ⟨_, hS.1, ?_, hS.2⟩
  rw [ofI_eq]
  exact VIs.flat (k := kindI st.many) [] (by unfold kindI; split <;> omega) hmr (by simp)
 rw [if_neg h8]
 rw [decide_eq_false h8] at hst
 obtain ⟨s1, ba1, bn1, bc1, fa1, fn1, fc1, la1, ln1, lc1, hds, -⟩ := hv.six
 by_cases h0 : st.v.kind = 0
 ·rw [if_pos h0]
  injection hds with e0 hds
  injection hds with e1 hds
  rw [h0] at e0
  subst e0 e1
  refine (value_null hst).mono fun e w' hS => ⟨_, hS.1, ?_, hS.2⟩
  exact VIs.flat (k := 2) (n := 0) [] (by omega) (by omega) (by simp)
 ·rw [if_neg h0]
  exact value_copy hst hv hwt h0
theorem size_all (h : AccIs P w S K st row) (ht : Tw w) :
  Calls Tryz.prog 16 #[.pointer (some ⟨S, 0, none⟩)] w fun e w' => e = .returned (.int .i64 (sizeA K st)) ∧ Step [] id id w w' := by
 obtain ⟨v0, v1, v2, v3, v4, v5, hst, hv, h1, h2⟩ := h.cells
 exact acc_size hst hv ht ⟨h1, by omega⟩
end
end Go.Proofs.YtembpajlllnncaaGreatDoor
namespace Go.Proofs.YtembpajlllnncaaGreatDoor
open Go.RowKit

theorem AccIs.rowP {P : Nat → Prop} {w : World} {S : Nat} {K : Int} {st : ASt} {row : Option Nat} (h : AccIs P w S K st row) : ∀ k, row = some k → P k := by
 rcases h with ⟨hk, l, hv, va, vc, xs, h1, h2, h3, h4, h5, h6, h7⟩ | ⟨hk, hn, -⟩
 ·exact h6
 ·intro k hk; rw [hn] at hk; cases hk
theorem AccL.weak {P P2 : Nat → Prop} {w : World} {S : Nat} {K many size : Int} {l : List Val} {row : Option Nat} (h : AccL P w S K many l size row) (hP : ∀ k, P k → k < w.heap.size → P2 k) : AccL P2 w S K many l size row := by
 obtain ⟨va, vc, xs, h1, h2, h3, h4, h5, h6, h7⟩ := h
 exact ⟨va, vc, xs, h1, h2, h3, h4.below.keep (fun _ k hk => ⟨hP k hk.1.1 hk.2, hk.1.2⟩) (fun _ _ _ _ => rfl), h5, fun k hk => hP k (h6 k hk) (World.ownsRow.lt h3 k (by rw [← h2]; exact hk)).2, h7⟩
theorem AccIs.weak {P P2 : Nat → Prop} {w : World} {S : Nat} {K : Int} {st : ASt} {row : Option Nat} (h : AccIs P w S K st row) (hP : ∀ k, P k → k < w.heap.size → P2 k) : AccIs P2 w S K st row := by
 rcases h with ⟨hk, l, hv, h⟩ | ⟨hk, hn, hz, v0, v1, v2, v3, v4, v5, hst, hx, h1⟩
 ·exact .inl ⟨hk, l, hv, h.weak hP⟩
 ·exact .inr ⟨hk, hn, hz, v0, v1, v2, v3, v4, v5, hst, hx.below.keep (fun k hk => ⟨hP k hk.1.1 hk.2, hk.1.2⟩) (fun _ _ _ => rfl), h1⟩
/-- A state that was made in here; it has nothing to do with the blocks N. -/
def AccAt (w0 w : World) (N : List Nat) (S : Nat) (K : Int) (st : ASt) : Prop := w0.heap.size ≤ S ∧ S ∉ N ∧ (∀ k ∈ N, k < w.heap.size) ∧ ∃ row, AccIs (fun k => w0.heap.size ≤ k ∧ k ∉ N) w S K st row
/-- What was there at the start, and the blocks N, are as they were. -/
def StepN (w0 : World) (N : List Nat) (w w' : World) : Prop := ∃ T, Step T id id w w' ∧ ∀ k ∈ T, w0.heap.size ≤ k ∧ k ∉ N
section
variable {w0 w w' w2 : World} {S : Nat} {K : Int} {st : ASt} {x : Val} {cs : List Value} {Q : Nat → Prop} {N : List Nat}
theorem StepN.at (h : StepN w0 N w w') {k : Nat} {o : Obj} (ho : w.heap[k]? = some o) (hk : k < w0.heap.size ∨ k ∈ N) : w'.heap[k]? = some o := by
 obtain ⟨T, hs, hT⟩ := h
 exact hs.at ho (fun hm => by have := hT k hm; rcases hk with h | h; omega; exact this.2 h)
theorem StepN.of (h : Step [] id id w w') : StepN w0 N w w' := ⟨[], h, by simp⟩
theorem StepN.tail (h : StepN w0 N w w') (h2 : StepN w0 N w' w2) : StepN w0 N w w2 := by
 obtain ⟨T, hs, hT⟩ := h
 obtain ⟨T2, hs2, hT2⟩ := h2
 refine ⟨T ++ T2, (hs.mono (by simp; exact fun _ h => .inl h)).tail (hs2.mono (by simp; exact fun _ h => .inr h)), fun k hk => ?_⟩
 rcases List.mem_append.1 hk with h | h
 ·exact hT k h
 ·exact hT2 k h
theorem StepN.size (h : StepN w0 N w w') : w.heap.size ≤ w'.heap.size := by obtain ⟨T, hs, hT⟩ := h; exact hs.size
theorem StepN.all (h : StepN w0 N w w') (hs : Step [] id id w0 w) : Step [] id id w0 w' := by
 obtain ⟨T, hs2, hT⟩ := h
 exact hs.tailNew hs2 (fun r hr => .inr (hT r hr).1)
theorem AccAt.step (h : AccAt w0 w N S K st) (hs : Step [] id id w w') : AccAt w0 w' N S K st := ⟨h.1, h.2.1, fun k hk => Nat.lt_of_lt_of_le (h.2.2.1 k hk) hs.size, h.2.2.2.imp fun _ h => h.step hs⟩
/-- A block that has come since then is one of the others. -/
theorem AccAt.other {B : Nat} (h : AccAt w0 w N S K st) (hs : Step [] id id w w') (hB : w.heap.size ≤ B) (hB2 : B < w'.heap.size) : AccAt w0 w' (B :: N) S K st := by
 obtain ⟨h1, h2, h3, row, hA⟩ := h
 have hl := hA.lt
 refine ⟨h1, by simp only [List.mem_cons, not_or]; exact ⟨by omega, h2⟩, fun k hk => ?_, row, (hA.weak (P2 := fun k => w0.heap.size ≤ k ∧ k ∉ B :: N) (fun k hk hl => ⟨hk.1, by simp only [List.mem_cons, not_or]; exact ⟨by omega, hk.2⟩⟩)).step hs⟩
 rcases List.mem_cons.1 hk with rfl | hk
 ·exact hB2
 ·exact Nat.lt_of_lt_of_le (h3 k hk) hs.size
theorem new_at (hK : 1 ≤ K ∧ K ≤ 8) (ht : Tw w0) (hs : Step [] id id w0 w) (hN : ∀ k ∈ N, k < w.heap.size) : Calls Tryz.prog 6 #[.int .i64 K] w fun e w' => ∃ S, e = .returned (.pointer (some ⟨S, 0, none⟩)) ∧ w.heap.size ≤ S ∧ AccAt w0 w' N S K (startA K) ∧ Step [] id id w w' :=
 (new_all (P := fun k => w0.heap.size ≤ k ∧ k ∉ N) hK (ht.step hs)).mono fun e w' h => ⟨_, h.1, Nat.le_refl _, ⟨hs.size, fun hm => Nat.lt_irrefl _ (hN _ hm), fun k hk => Nat.lt_of_lt_of_le (hN k hk) h.2.2.size, none, h.2.1⟩, h.2.2⟩
theorem add_at (hK : 1 ≤ K ∧ K ≤ 8) (ht : Tw w0) (hs : Step [] id id w0 w) (h : AccAt w0 w N S K st) (hm : st.many ≤ 1000000000) (hx : VIs Q w x cs) (hQ : ∀ k, Q k → k ≠ S) (hwt : weightV x ≤ 100000000)
  (hcm : (K = 2 ∨ K = 3) ∧ st.v.kind ≠ 0 → CmpH x st.v) (hcm7 : K = 7 → x.kind ≠ 0 → ∀ y ∈ st.v.l, CmpH y x) :
  Calls Tryz.prog 12 #[.pointer (some ⟨S, 0, none⟩), .agg cs.toArray] w fun e w' => e = .returned (.int .i64 (addA K st x).1) ∧ AccAt w0 w' N S K (addA K st x).2 ∧ StepN w0 N w w' := by
 obtain ⟨h0, h1, h2, row, hA⟩ := h
 refine (add_all hK hA hm hx hQ hwt (ht.step hs) (fun k hk => ⟨Nat.le_trans hs.size hk, fun hm => by have := h2 k hm; omega⟩) hcm hcm7).mono fun e w' hS => ?_
 obtain ⟨rfl, row', hA', hs', -⟩ := hS
 refine ⟨rfl, ⟨h0, h1, fun k hk => Nat.lt_of_lt_of_le (h2 k hk) hs'.size, row', hA'⟩, _, hs', fun r hr => ?_⟩
 rcases List.mem_cons.1 hr with rfl | hr
 ·exact ⟨h0, h1⟩
 ·exact hA.rowP r (by simpa using hr)
theorem value_at (hK : 1 ≤ K ∧ K ≤ 8) (h : AccAt w0 w N S K st) (hm : st.many ≤ 1000000000) (hwt : weightV st.v ≤ 100000000) :
  Calls Tryz.prog 14 #[.pointer (some ⟨S, 0, none⟩)] w fun e w' => ∃ ds : List Value, e = .returned (.agg ds.toArray) ∧ VIs (fun k => w.heap.size ≤ k) w' (valueA K st) ds ∧ Step [] id id w w' := by
 obtain ⟨h0, h1, h2, row, hA⟩ := h
 exact value_all hK hA hm hwt
theorem size_at (ht : Tw w0) (hs : Step [] id id w0 w) (h : AccAt w0 w N S K st) :
  Calls Tryz.prog 16 #[.pointer (some ⟨S, 0, none⟩)] w fun e w' => e = .returned (.int .i64 (sizeA K st)) ∧ Step [] id id w w' := by
 obtain ⟨h0, h1, h2, row, hA⟩ := h
 exact size_all hA (ht.step hs)
end
theorem flat0 {P : Nat → Prop} {w : World} (k n : Int) (hk : 0 ≤ k ∧ k ≤ 100) (hn : inR n) : VIs P w (.mk k n [] [] [] []) [.int .i64 k, .int .i64 n, (.string ⟨#[]⟩), (.slice none 0 0), (.slice none 0 0), (.slice none 0 0)] := VIs.flat [] (by omega) hn (by simp)
/-- A number is added to a sum; a text, too. -/
theorem add_sum {w0 : World} {st st' : ASt} {er : Int} (k n : Int) (t : Bs) (ht : Tw w0) (hk : 0 ≤ k ∧ k ≤ 100) (hn : inR n) (hl : t.length ≤ 100) (hm : st.many ≤ 1000000000) (hr : addA 1 st (.mk k n t [] [] []) = (er, st')) :
  ∀ (S : Nat) (W : World) (N : List Nat), Step [] id id w0 W → AccAt w0 W N S 1 st → Calls Tryz.prog 12 #[.pointer (some ⟨S, 0, none⟩), .agg #[.int .i64 k, .int .i64 n, .string (strOf t), (.slice none 0 0), (.slice none 0 0), (.slice none 0 0)]] W fun e w' => e = .returned (.int .i64 er) ∧ AccAt w0 w' N S 1 st' ∧ StepN w0 N W w' := fun S W N hs hA => by
 have h := add_at (Q := fun _ => False) (by omega) ht hs hA hm (VIs.flat (k := k) (n := n) t (by omega) hn (by omega)) (fun _ h => h.elim) (by simp [weightV, weightFs, weightLs]; omega) (fun h => by omega) (fun h => by omega)
 rw [hr] at h
 exact h
set_option maxRecDepth 100000 in
set_option maxHeartbeats 4000000 in
theorem ac_awake (w : World) (ht : Tw w) : Calls Tryz.prog 4 #[] w fun e w' => e = .returned (.bool true) ∧ Step [] id id w w' := by
 have hnew := Lib.hid (new_at (K := 1) (N := []) (by omega) ht (Step.refl [] id w) (by simp))
 have hadd1 := Lib.hid (add_sum (st := startA 1) (st' := ⟨1, .mk 3 1 [] [] [] [], 0⟩) (er := 0) 3 1 [] ht (by omega) (by decide) (by simp) (by decide) (by kernel_rfl))
 have hadd2 := Lib.hid (add_sum (st := ⟨1, .mk 3 1 [] [] [] [], 0⟩) (st' := ⟨2, .mk 3 1 [] [] [] [], 0⟩) (er := 0) 5 0 [120] ht (by omega) (by decide) (by simp) (by decide) (by kernel_rfl))
 have hadd3 := Lib.hid (add_sum (st := ⟨2, .mk 3 1 [] [] [] [], 0⟩) (st' := ⟨3, .mk 3 3 [] [] [] [], 0⟩) (er := 0) 3 2 [] ht (by omega) (by decide) (by simp) (by decide) (by kernel_rfl))
 have hkind := Lib.hid (fun W => acc_kind [36, 112, 117, 115, 104] W)
 rw [show kindOf [36, 112, 117, 115, 104] = 6 from by decide] at hkind
 have hsize : sizeA 1 ⟨3, .mk 3 3 [] [] [] [], 0⟩ = 20 := by kernel_rfl
 have hszH := Lib.hid hsize
 have htH := Lib.hid ht
 clear ht hsize
 go_enter Tryz.func4, Tryz.ntmps4
 go_wp2_with fail
 refine hnew.out.mono ?_
 rintro e w1 ⟨S, rfl, -, hA1, hs1⟩
 have hA1H := Lib.hid hA1
 have hs1H := Lib.hid hs1
 clear hA1 hs1
 go_wp2_with fail
 refine (hadd1.out _ _ _ hs1H.out hA1H.out).mono ?_
 rintro e w2 ⟨rfl, hA2, hs2⟩
 have hA2H := Lib.hid hA2
 have hs2H := Lib.hid (hs2.all hs1H.out)
 clear hA2 hs2
 go_wp2_with fail
 refine (hadd2.out _ _ _ hs2H.out hA2H.out).mono ?_
 rintro e w3 ⟨rfl, hA3, hs3⟩
 have hA3H := Lib.hid hA3
 have hs3H := Lib.hid (hs3.all hs2H.out)
 clear hA3 hs3
 go_wp2_with fail
 refine (hadd3.out _ _ _ hs3H.out hA3H.out).mono ?_
 rintro e w4 ⟨rfl, hA4, hs4⟩
 have hA4H := Lib.hid hA4
 have hs4H := Lib.hid (hs4.all hs3H.out)
 clear hA4 hs4
 go_wp2_with fail
 refine (value_at (by omega) hA4H.out (by decide) (by decide)).mono ?_
 rintro e w5 ⟨ds, rfl, hx, hs5⟩
 have hval : valueA 1 ⟨3, .mk 3 3 [] [] [] [], 0⟩ = .mk 3 3 [] [] [] [] := by kernel_rfl
 rw [hval] at hx
 obtain ⟨s2, ba2, bn2, bc2, fa2, fn2, fc2, la2, ln2, lc2, hds, -⟩ := hx.six
 simp only [Val.kind, Val.num] at hds
 subst hds
 have hs5H := Lib.hid (hs4H.out.tail hs5)
 have hA5H := Lib.hid (hA4H.out.step hs5)
 clear hx hs5 hval
 go_wp2_with fail
 refine (hkind.out _).mono ?_
 rintro e w6 ⟨rfl, rfl⟩
 go_wp2_with fail
 refine (size_at htH.out (hs5H.out.tail (Step.alloc _)) (hA5H.out.step (Step.alloc _))).mono ?_
 rintro e w6 ⟨rfl, hs6⟩
 rw [hszH.out]
 have hs6H := Lib.hid ((hs5H.out.tail (Step.alloc _)).tail hs6)
 clear hs6
 go_wp2_with fail
 go_ret
 exact ⟨rfl, hs6H.out⟩
end Go.Proofs.YtembpajlllnncaaGreatDoor
