/- AccumAdds: the reference: AccName. AccumAdds: the reference: a state of any kind. The law AccumAdds, walked. -/
import Derived.Test.YtembpajlllnncaaGreatDoorAcJ
import Derived.Test.YtembpajlllnncaaGreatDoorAdR
import Derived.Test.YtembpajlllnncaaGreatDoorAdT
import Derived.Test.YtembpajlllnncaaGreatDoorAcCi
import Derived.Test.YtembpajlllnncaaGreatDoorAqMy
import Derived.Test.YtembpajlllnncaaGreatDoorAcSm
set_option linter.unusedVariables false
set_option linter.unusedSimpArgs false
namespace Go.Proofs.YtembpajlllnncaaGreatDoor
open Go.RowKit

def accName (i : Nat) : Bs := [[36, 115, 117, 109], [36, 109, 105, 110], [36, 109, 97, 120], [36, 102, 105, 114, 115, 116], [36, 108, 97, 115, 116], [36, 112, 117, 115, 104], [36, 97, 100, 100, 84, 111, 83, 101, 116], [36, 99, 111, 117, 110, 116]].getD i []
theorem accName_cell {W : World} {B : Nat} (h : W.heap[B]? = some (.cells #[.string ⟨#[36, 115, 117, 109]⟩, .string ⟨#[36, 109, 105, 110]⟩, .string ⟨#[36, 109, 97, 120]⟩, .string ⟨#[36, 102, 105, 114, 115, 116]⟩, .string ⟨#[36, 108, 97, 115, 116]⟩, .string ⟨#[36, 112, 117, 115, 104]⟩, .string ⟨#[36, 97, 100, 100, 84, 111, 83, 101, 116]⟩, .string ⟨#[36, 99, 111, 117, 110, 116]⟩] 9 (0, 0))) {i : Nat} (hi : i < 8) : W.cell? ⟨B, i, none⟩ = some (.string (strOf (accName i))) := by
 obtain rfl | rfl | rfl | rfl | rfl | rfl | rfl | rfl : i = 0 ∨ i = 1 ∨ i = 2 ∨ i = 3 ∨ i = 4 ∨ i = 5 ∨ i = 6 ∨ i = 7 := by omega
 all_goals exact cell_blk h rfl
theorem kindOf_name {i : Nat} (hi : i < 8) : kindOf (accName i) = (i : Int) + 1 := by
 obtain rfl | rfl | rfl | rfl | rfl | rfl | rfl | rfl : i = 0 ∨ i = 1 ∨ i = 2 ∨ i = 3 ∨ i = 4 ∨ i = 5 ∨ i = 6 ∨ i = 7 := by omega
 all_goals decide
theorem kindOf_other {s : Bs} (h : ∀ q, q < 8 → accName q ≠ s) : kindOf s = 0 := by
 have h0 := h 0 (by omega); have h1 := h 1 (by omega); have h2 := h 2 (by omega); have h3 := h 3 (by omega); have h4 := h 4 (by omega); have h5 := h 5 (by omega); have h6 := h 6 (by omega); have h7 := h 7 (by omega)
 unfold kindOf
 rw [if_neg (fun e => h0 e.symm), if_neg (fun e => h1 e.symm), if_neg (fun e => h2 e.symm), if_neg (fun e => h3 e.symm), if_neg (fun e => h4 e.symm), if_neg (fun e => h5 e.symm), if_neg (fun e => h6 e.symm), if_neg (fun e => h7 e.symm)]
set_option maxRecDepth 100000 in
set_option maxHeartbeats 4000000 in
theorem ref_accname (s : Bs) (w : World) : Calls Tryz.prog 9 #[.string (strOf s)] w fun e w' => e = .returned (.int .i64 (kindOf s)) ∧ Step [] id id w w' := by
 have hd := fun i => list_dec (accName i) s
 obtain ⟨T, hT⟩ : ∃ T, T = strOf s := ⟨_, rfl⟩
 have hTs : T.toList = s := by rw [hT, strOf_toList]
 rw [← hT]
 clear hT
 go_enter Tryz.func9, Tryz.ntmps9
 go_wp2_with fail
 obtain ⟨W1, hW1⟩ : ∃ W1, W1 = w.alloc (.cells #[.string ⟨#[36, 115, 117, 109]⟩, .string ⟨#[36, 109, 105, 110]⟩, .string ⟨#[36, 109, 97, 120]⟩, .string ⟨#[36, 102, 105, 114, 115, 116]⟩, .string ⟨#[36, 108, 97, 115, 116]⟩, .string ⟨#[36, 112, 117, 115, 104]⟩, .string ⟨#[36, 97, 100, 100, 84, 111, 83, 101, 116]⟩, .string ⟨#[36, 99, 111, 117, 110, 116]⟩] 9) := ⟨_, rfl⟩
 rw [← hW1]
 have hN := Lib.hid (show W1.heap[w.heap.size]? = some (.cells #[.string ⟨#[36, 115, 117, 109]⟩, .string ⟨#[36, 109, 105, 110]⟩, .string ⟨#[36, 109, 97, 120]⟩, .string ⟨#[36, 102, 105, 114, 115, 116]⟩, .string ⟨#[36, 108, 97, 115, 116]⟩, .string ⟨#[36, 112, 117, 115, 104]⟩, .string ⟨#[36, 97, 100, 100, 84, 111, 83, 101, 116]⟩, .string ⟨#[36, 99, 111, 117, 110, 116]⟩] 9 (0, 0)) by rw [hW1]; exact heap_alloc_new w _)
 have hs1 := Lib.hid (show Step [] id id w W1 by rw [hW1]; exact Step.alloc _)
 clear hW1
 have hdH := Lib.hid hd
 have hTH := Lib.hid hTs
 clear hd hTs
 go_loopw [4] (fun i wr => ∃ j : Nat, i = .int .i64 j ∧ j ≤ 8 ∧ wr = W1 ∧ ∀ q, q < j → accName q ≠ s) (fun i _ => 8 - (intOf i).toNat)
 case atStart => exact ⟨0, rfl, by omega, rfl, fun q h => absurd h (Nat.not_lt_zero _)⟩
 case round =>
  obtain ⟨j, rfl, hj, rfl, hno⟩ := hrel
  have hnoH := Lib.hid hno
  clear hno
  by_cases hj8 : j < 8
  ·have hj1 : (j : Int) < 8 := by omega
   have q0 := accName_cell hN.out hj8
   have hlt := lt_of_block hN.out
   have hwr : IntKind.i64.wrap ((j : Int) + 1) = (j : Int) + 1 := IntWalk.i64_in _ (by omega)
   have hdj := hdH.out j
   rw [← hTH.out] at hdj
   obtain ⟨NM, hNM⟩ : ∃ NM, NM = strOf (accName j) := ⟨_, rfl⟩
   rw [← hNM] at q0 hdj
   clear hNM
   by_cases hs : accName j = s
   ·rw [decide_eq_true (by rw [hTH.out]; exact hs)] at hdj
    have hk := Lib.hid (show kindOf s = (j : Int) + 1 by rw [← hs]; exact kindOf_name hj8)
    clear hs
    go_wp2_with fail
    go_ret
    exact ⟨by rw [hk.out]; rfl, hs1.out⟩
   ·rw [decide_eq_false (by rw [hTH.out]; exact hs)] at hdj
    have hsH := Lib.hid hs
    clear hs
    go_wp2_with fail
    go_roundw
    case rel =>
     refine ⟨j + 1, by go_num, by omega, by first | trivial | rfl, fun q hq => ?_⟩
     by_cases hqe : q = j
     ·subst hqe; exact hsH.out
     ·exact hnoH.out q (by omega)
    case measure => simp [intOf]; omega
  ·have hj1 : ¬ (j : Int) < 8 := by omega
   have hk := Lib.hid (kindOf_other (s := s) (fun q hq => hnoH.out q (by omega)))
   go_wp2_with fail
   go_ret
   exact ⟨by rw [hk.out]; rfl, hs1.out⟩
end Go.Proofs.YtembpajlllnncaaGreatDoor
namespace Go.Proofs.YtembpajlllnncaaGreatDoor
open Go.RowKit

section
variable {w : World} {M : Nat} {N k n k0 n0 : Int} {s s0 : ByteArray} {ba fa la ba0 fa0 la0 : Option Addr} {bn bc fn fc ln lc bn0 bc0 fn0 fc0 ln0 lc0 : Nat}
set_option maxRecDepth 100000 in
set_option maxHeartbeats 4000000 in
theorem radd_miss6 (h : StR w M 6 N (.int .i64 k0) (.int .i64 n0) (.string s0) (.slice ba0 bn0 bc0) (.slice fa0 fn0 fc0) (.slice la0 ln0 lc0)) (hN : 0 ≤ N ∧ N ≤ 1000000000) : Calls Tryz.prog 13 #[.pointer (some ⟨M, 0, none⟩), .agg #[.int .i64 0, .int .i64 n, .string s, .slice ba bn bc, .slice fa fn fc, .slice la ln lc]] w (RAdd M 6 (N + 1) 0 (.int .i64 k0) (.int .i64 n0) (.string s0) (.slice ba0 bn0 bc0) (.slice fa0 fn0 fc0) (.slice la0 ln0 lc0) w) := by
 have hMw := lt_of_block h
 have hMB : ¬ M = w.heap.size := by omega
 have hBM : ¬ w.heap.size = M := by omega
 have c0 := cell_blk h (i := 0) rfl
 have c1 := cell_blk h (i := 1) rfl
 have fM := free_blk h
 have hwr : IntKind.i64.wrap (N + 1) = N + 1 := IntWalk.i64_in _ (by omega)
 have hwH := Lib.hid h
 clear h
 go_enter Tryz.func13, Tryz.ntmps13
 go_wp2_with fail
 go_ret
 exact (count_ends hwH.out (Step.refl _ _ _)).alloc _
set_option maxRecDepth 100000 in
set_option maxHeartbeats 4000000 in
theorem radd_miss7 (h : StR w M 7 N (.int .i64 k0) (.int .i64 n0) (.string s0) (.slice ba0 bn0 bc0) (.slice fa0 fn0 fc0) (.slice la0 ln0 lc0)) (hN : 0 ≤ N ∧ N ≤ 1000000000) : Calls Tryz.prog 13 #[.pointer (some ⟨M, 0, none⟩), .agg #[.int .i64 0, .int .i64 n, .string s, .slice ba bn bc, .slice fa fn fc, .slice la ln lc]] w (RAdd M 7 (N + 1) 0 (.int .i64 k0) (.int .i64 n0) (.string s0) (.slice ba0 bn0 bc0) (.slice fa0 fn0 fc0) (.slice la0 ln0 lc0) w) := by
 have hMw := lt_of_block h
 have hMB : ¬ M = w.heap.size := by omega
 have hBM : ¬ w.heap.size = M := by omega
 have c0 := cell_blk h (i := 0) rfl
 have c1 := cell_blk h (i := 1) rfl
 have fM := free_blk h
 have hwr : IntKind.i64.wrap (N + 1) = N + 1 := IntWalk.i64_in _ (by omega)
 have hwH := Lib.hid h
 clear h
 go_enter Tryz.func13, Tryz.ntmps13
 go_wp2_with fail
 go_ret
 exact (count_ends hwH.out (Step.refl _ _ _)).alloc _
end
theorem sum_passR {st : ASt} {x : Val} (h : ¬ (x.kind = 3 ∨ x.kind = 4)) : addA 1 st x = (0, { st with many := st.many + 1 }) := by
 have hs : stepA 1 st x = (0, st) := by unfold stepA; rw [if_pos rfl, if_neg h]
 unfold addA
 rw [hs]; rfl
theorem count_stepR {st : ASt} {x : Val} : addA 8 st x = (0, { st with many := st.many + 1 }) := by
 have hs : stepA 8 st x = (0, st) := by unfold stepA; rw [if_neg (by decide), if_neg (by decide), if_neg (by decide), if_neg (by decide), if_neg (by decide), if_neg (by decide), if_neg (by decide)]
 unfold addA
 rw [hs]; rfl
/-- A sum's value. -/
def SumV (v : Val) (v2 v3 v4 v5 : Value) : Prop := (v.kind = 3 ∨ v.kind = 4) ∧ v = .mk v.kind v.num [] [] [] [] ∧ inR v.num ∧ v2 = (.string ⟨#[]⟩) ∧ v3 = (.slice none 0 0) ∧ v4 = (.slice none 0 0) ∧ v5 = (.slice none 0 0)
/-- A reference's state of a kind: what it keeps, in blocks of P's. -/
def RefIs (P : Nat → Prop) (w : World) (M : Nat) (K : Int) (st : ASt) : Prop :=
 ∃ v0 v1 v2 v3 v4 v5, StR w M K st.many v0 v1 v2 v3 v4 v5 ∧ VIs (fun k => P k ∧ k ≠ M) w st.v [v0, v1, v2, v3, v4, v5] ∧ (K = 1 → SumV st.v v2 v3 v4 v5)
section
variable {P P2 : Nat → Prop} {w w' : World} {M : Nat} {K : Int} {st : ASt}
theorem RefIs.keep {T : List Nat} (h : RefIs P w M K st) (hs : Step T id id w w') (hM : M ∉ T) (hT : ∀ k ∈ T, k < w.heap.size → ¬ P k) : RefIs P w' M K st := by
 obtain ⟨v0, v1, v2, v3, v4, v5, h1, h2, h3⟩ := h
 exact ⟨v0, v1, v2, v3, v4, v5, hs.at h1 hM, h2.keep (fun _ h => h) (fun k hk hl => (hs.keep k hl (fun hm => hT k hm hl hk.1)).2), h3⟩
theorem RefIs.step (h : RefIs P w M K st) (hs : Step [] id id w w') : RefIs P w' M K st := h.keep hs (by simp) (by simp)
theorem RefIs.weak (h : RefIs P w M K st) (hP : ∀ k, P k → k < w.heap.size → P2 k) : RefIs P2 w M K st := by
 obtain ⟨v0, v1, v2, v3, v4, v5, h1, h2, h3⟩ := h
 exact ⟨v0, v1, v2, v3, v4, v5, h1, h2.below.keep (fun k hk => ⟨hP k hk.1.1 hk.2, hk.1.2⟩) (fun _ _ _ => rfl), h3⟩
theorem RefIs.lt (h : RefIs P w M K st) : M < w.heap.size := by
 obtain ⟨v0, v1, v2, v3, v4, v5, h1, -⟩ := h
 exact lt_of_block h1
/-- What it comes to, and its size. -/
theorem refv_all (hK : 1 ≤ K ∧ K ≤ 8) (h : RefIs P w M K st) (hm : st.many ≤ 1000000000) : Calls Tryz.prog 15 #[.pointer (some ⟨M, 0, none⟩)] w (ValR (valueA K st) w) := by
 obtain ⟨v0, v1, v2, v3, v4, v5, h1, h2, -⟩ := h
 by_cases h8 : K = 8
 ·subst h8
  unfold valueA
  rw [if_pos rfl]
  exact refv_count h1 (by unfold inR; omega)
 unfold valueA
 rw [if_neg h8]
 by_cases h0 : st.v.kind = 0
 ·rw [if_pos h0]
  obtain ⟨_, _, _, _, _, _, _, _, _, _, hcs, -⟩ := h2.six
  injection hcs with e0 hcs
  injection hcs with e1 hcs
  rw [e0, e1, h0] at h1
  exact refv_none h1 h8
 ·rw [if_neg h0]
  exact refv_else h1 h2 h8 h0
theorem refs_all {i : Nat} (h : RefIs P w M K st) (hI : InvA K st i) (hq : OwnQC st.v 1) : Calls Tryz.prog 17 #[.pointer (some ⟨M, 0, none⟩)] w fun e w' => e = .returned (.int .i64 (sizeA K st)) ∧ Step [] id id w w' := by
 obtain ⟨v0, v1, v2, v3, v4, v5, h1, h2, -⟩ := h
 rw [size_inv hI]
 exact ref_size h1 h2 hq
/-- Its own bytes can be reckoned. -/
theorem inv_ownq {i : Nat} (hI : InvA K st i) (hi : i ≤ 1000) : OwnQC st.v 1 := by
 by_cases hK : K = 6 ∨ K = 7
 ·obtain ⟨hv, hs, h5, hl, hy⟩ := hI.2.1 hK
  rw [hv]
  exact own_listQ rfl (fun _ j hj => own_small (by have := hy _ (List.getElem_mem hj); omega) (by omega)) (by omega) (by omega)
 ·exact own_small (by have := (hI.2.2 hK).2; omega) (by omega)
theorem push_ownq {i : Nat} {x : Val} (hI : InvA K st i) (hK : K = 6 ∨ K = 7) (hi : i ≤ 1000) (hx : weightV x ≤ 3000) : OwnQC (listV (st.v.l ++ [x])) 1 := by
 obtain ⟨hv, hs, h5, hl, hy⟩ := hI.2.1 hK
 refine own_listQ rfl (fun _ j hj => own_small ?_ (by omega)) (by rw [List.length_append, List.length_singleton]; omega) (by omega)
 have hm := List.getElem_mem hj
 rcases List.mem_append.1 hm with h | h
 ·have := hy _ h; omega
 ·rw [List.mem_singleton.1 h]; omega
/-- What is kept of a value, when the state's block has turned. -/
theorem VIs.beside {x : Val} {cs : List Value} (h : VIs (fun k => P k ∧ k ≠ M) w x cs) (hs : Step [M] id id w w') : VIs (fun k => (P k ∨ w.heap.size ≤ k) ∧ k ≠ M) w' x cs :=
 h.keep (fun k h => ⟨.inl h.1, h.2⟩) (fun k hk hl => (hs.keep k hl (by simpa using hk.2)).2)
def AddR (P : Nat → Prop) (M : Nat) (K er : Int) (st' : ASt) (w : World) (e : Ending) (w' : World) : Prop := e = .returned (.int .i64 er) ∧ RefIs (fun k => P k ∨ w.heap.size ≤ k) w' M K st' ∧ Step [M] id id w w'
theorem RAdd.ref {N : Nat} {N' er : Int} {v : Val} {z : Int} {v0 v1 v2 v3 v4 v5 : Value} {e : Ending} (h : RAdd M K N' er v0 v1 v2 v3 v4 v5 w e w') (hN : N' = N) (hv : VIs (fun k => (P k ∨ w.heap.size ≤ k) ∧ k ≠ M) w' v [v0, v1, v2, v3, v4, v5]) (h1 : K = 1 → SumV v v2 v3 v4 v5) : AddR P M K er ⟨N, v, z⟩ w e w' :=
 ⟨h.1, ⟨v0, v1, v2, v3, v4, v5, by rw [hN] at h; exact h.2.1, hv, h1⟩, h.2.2⟩
theorem radd_all {i : Nat} {x : Val} {cs : List Value} (hK : 1 ≤ K ∧ K ≤ 8) (h : RefIs P w M K st) (hI : InvA K st i) (hi : i ≤ 1000) (hx : VIs (fun k => P k ∧ k ≠ M) w x cs) (hwx : weightV x ≤ 3000) : Calls Tryz.prog 13 #[.pointer (some ⟨M, 0, none⟩), .agg cs.toArray] w (AddR P M K (addA K st x).1 (addA K st x).2 w) := by
 obtain ⟨v0, v1, v2, v3, v4, v5, h1, h2, h3⟩ := h
 have hN : (0 : Int) ≤ (st.many : Int) ∧ (st.many : Int) ≤ 1000000000 := by have := hI.1; omega
 have hN1 : ((st.many : Int) + 1) = ((st.many + 1 : Nat) : Int) := by omega
 have hxc := hx.six
 obtain ⟨s, ba, bn, bc, fa, fn, fc, la, ln, lc, hcs, -⟩ := hxc
 have hvc := h2.six
 obtain ⟨s0, ba0, bn0, bc0, fa0, fn0, fc0, la0, ln0, lc0, hcv, -, -, -, hln0⟩ := hvc
 injection hcv with q0 hcv
 injection hcv with q1 hcv
 injection hcv with q2 hcv
 injection hcv with q3 hcv
 injection hcv with q4 hcv
 injection hcv with q5 hcv
 subst q0 q1 q2 q3 q4 q5
 subst hcs
 have hxr : inR x.num := by obtain ⟨_, _, _, _, _, -, -, -, ⟨-, -, h5, h6⟩, -⟩ := hx.cells; exact ⟨h5, h6⟩
 obtain ⟨N, hNe⟩ : ∃ N, N = st.many := ⟨_, rfl⟩
 have hpass : ∀ {e : Ending} {w' : World}, RAdd M K (st.many + 1) 0 (.int .i64 st.v.kind) (.int .i64 st.v.num) (.string s0) (.slice ba0 bn0 bc0) (.slice fa0 fn0 fc0) (.slice la0 ln0 lc0) w e w' → AddR P M K 0 { st with many := st.many + 1 } w e w' :=
  fun hR => hR.ref hN1 (h2.beside hR.2.2) h3
 have htake : ∀ {e : Ending} {w' : World}, K ≠ 1 → RAdd M K (st.many + 1) 0 (.int .i64 x.kind) (.int .i64 x.num) (.string s) (.slice ba bn bc) (.slice fa fn fc) (.slice la ln lc) w e w' → AddR P M K 0 { st with v := x, many := st.many + 1 } w e w' :=
  fun hk hR => hR.ref hN1 (hx.beside hR.2.2) (fun h => absurd h hk)
 obtain rfl | rfl | rfl | rfl | rfl | rfl | rfl | rfl : K = 1 ∨ K = 2 ∨ K = 3 ∨ K = 4 ∨ K = 5 ∨ K = 6 ∨ K = 7 ∨ K = 8 := by omega
 ·-- a sum
  by_cases hk : x.kind = 3 ∨ x.kind = 4
  ·obtain ⟨g1, g2, g3, rfl', e3, e4, e5⟩ := h3 rfl
   rw [rfl', e3, e4, e5] at h1
   refine (radd_num h1 hN g1 g3 hk hxr).mono fun e w' hR => ?_
   unfold RSum at hR
   by_cases hr : inR (st.v.num + x.num)
   ·rw [if_pos hr] at hR
    have he : addA 1 st x = (0, { st with v := .mk (if st.v.kind = 4 ∨ x.kind = 4 then 4 else kindI (st.v.num + x.num)) (st.v.num + x.num) [] [] [] [], many := st.many + 1 }) := by
     have hs : stepA 1 st x = (0, { st with v := .mk (if st.v.kind = 4 ∨ x.kind = 4 then 4 else kindI (st.v.num + x.num)) (st.v.num + x.num) [] [] [] [] }) := by unfold stepA; rw [if_pos rfl, if_pos hk, if_pos hr]
     unfold addA; rw [hs]; rfl
    rw [he]
    have hkk : (if st.v.kind = 4 ∨ x.kind = 4 then (4 : Int) else kindI (st.v.num + x.num)) = 3 ∨ (if st.v.kind = 4 ∨ x.kind = 4 then (4 : Int) else kindI (st.v.num + x.num)) = 4 := by
     unfold kindI
     split
     ·exact .inr rfl
     ·split
      ·exact .inl rfl
      ·exact .inr rfl
    refine hR.ref hN1 (VIs.flat [] (by omega) hr (by simp)) (fun _ => ⟨hkk, rfl, hr, rfl, rfl, rfl, rfl⟩)
   ·rw [if_neg hr] at hR
    have he : addA 1 st x = (10, st) := by
     have hs : stepA 1 st x = (10, st) := by unfold stepA; rw [if_pos rfl, if_pos hk, if_neg hr]
     unfold addA; rw [hs]; rfl
    rw [he]
    rw [rfl', e3, e4, e5] at h2
    exact hR.ref (N := st.many) rfl (h2.beside hR.2.2) (fun _ => ⟨g1, g2, g3, rfl, rfl, rfl, rfl⟩)
  ·refine (radd_nonum h1 hN hk).mono fun e w' hR => ?_
   rw [sum_passR hk]
   exact hpass hR
 ·refine (radd_least h1 hN hx h2).mono fun e w' hR => ?_
  unfold RBest at hR
  have he : addA 2 st x = (0, { betterA st x (-1) with many := (betterA st x (-1)).many + 1 }) := by
   have hs : stepA 2 st x = (0, betterA st x (-1)) := by unfold stepA; rw [if_neg (by decide), if_pos rfl]
   unfold addA; rw [hs]; rfl
  rw [he]
  unfold betterA
  by_cases g1 : x.kind = 0 ∨ x.kind = 2
  ·rw [if_pos g1] at hR ⊢; exact hpass hR
  ·rw [if_neg g1] at hR ⊢
   by_cases g2 : st.v.kind = 0 ∨ cmpV x st.v = -1
   ·rw [if_pos g2] at hR ⊢; exact htake (by decide) hR
   ·rw [if_neg g2] at hR ⊢; exact hpass hR
 ·refine (radd_most h1 hN hx h2).mono fun e w' hR => ?_
  unfold RBest at hR
  have he : addA 3 st x = (0, { betterA st x 1 with many := (betterA st x 1).many + 1 }) := by
   have hs : stepA 3 st x = (0, betterA st x 1) := by unfold stepA; rw [if_neg (by decide), if_neg (by decide), if_pos rfl]
   unfold addA; rw [hs]; rfl
  rw [he]
  unfold betterA
  by_cases g1 : x.kind = 0 ∨ x.kind = 2
  ·rw [if_pos g1] at hR ⊢; exact hpass hR
  ·rw [if_neg g1] at hR ⊢
   by_cases g2 : st.v.kind = 0 ∨ cmpV x st.v = 1
   ·rw [if_pos g2] at hR ⊢; exact htake (by decide) hR
   ·rw [if_neg g2] at hR ⊢; exact hpass hR
 ·by_cases h0 : st.many = 0
  ·have he : addA 4 st x = (0, { st with v := x, many := st.many + 1 }) := by
    have hs : stepA 4 st x = (0, { st with v := x }) := by unfold stepA; rw [if_neg (by decide), if_neg (by decide), if_neg (by decide), if_pos rfl, if_pos h0]
    unfold addA; rw [hs]; rfl
   rw [he]
   exact (radd_first h1 hN (by omega)).mono fun e w' hR => htake (by decide) hR
  ·have he : addA 4 st x = (0, { st with many := st.many + 1 }) := by
    have hs : stepA 4 st x = (0, st) := by unfold stepA; rw [if_neg (by decide), if_neg (by decide), if_neg (by decide), if_pos rfl, if_neg h0]
    unfold addA; rw [hs]; rfl
   rw [he]
   exact (radd_later h1 hN (by omega)).mono fun e w' hR => hpass hR
 ·have he : addA 5 st x = (0, { st with v := x, many := st.many + 1 }) := by
   have hs : stepA 5 st x = (0, { st with v := x }) := by unfold stepA; rw [if_neg (by decide), if_neg (by decide), if_neg (by decide), if_neg (by decide), if_pos rfl]
   unfold addA; rw [hs]; rfl
  rw [he]
  exact (radd_last h1 hN).mono fun e w' hR => htake (by decide) hR
 ·have he0 : stepA 6 st x = pushA st x := by
   unfold stepA
   rw [if_neg (by decide), if_neg (by decide), if_neg (by decide), if_neg (by decide), if_neg (by decide), if_pos rfl]
  by_cases hk : x.kind = 0
  ·have he : addA 6 st x = (0, { st with many := st.many + 1 }) := by
    unfold addA; rw [he0]; unfold pushA; rw [if_pos hk]; rfl
   rw [he, hk]
   exact (radd_miss6 h1 hN).mono fun e w' hR => hpass hR
  obtain ⟨hv, hs, h5, hl, hy⟩ := hI.2.1 (.inl rfl)
  have hpe := push_eq hI (.inl rfl) hk
  have hml : ln0 ≤ 1000 := by omega
  have h2v : VIs (fun k => P k ∧ k ≠ M) w (listV st.v.l) [.int .i64 st.v.kind, .int .i64 st.v.num, .string s0, .slice ba0 bn0 bc0, .slice fa0 fn0 fc0, .slice la0 ln0 lc0] := by rw [← hv]; exact h2
  refine (radd_push h1 hN h2v hx (fun k hk => hk.2) hk (push_ownq hI (.inl rfl) hi hwx) hml).mono fun e w' hR => ?_
  unfold RPush at hR
  by_cases ho : ownV (listV (st.v.l ++ [x])) < 0
  ·rw [if_pos ho] at hR hpe
   have he : addA 6 st x = (3, st) := by unfold addA; rw [he0, hpe]; rfl
   rw [he]
   exact hR.ref (N := st.many) rfl (h2.beside hR.2.2) (fun h => by cases h)
  ·rw [if_neg ho] at hR hpe
   obtain ⟨u0, u1, u2, u3, u4, u5, hR, hu⟩ := hR
   have he : addA 6 st x = (0, ⟨st.many + 1, listV (st.v.l ++ [x]), ownV (listV (st.v.l ++ [x]))⟩) := by unfold addA; rw [he0, hpe]; rfl
   rw [he]
   exact hR.ref hN1 (hu.keep (fun k hk => by rcases hk with h | h; exact ⟨.inl h.1, h.2⟩; exact ⟨.inr h.1, h.2⟩) (fun _ _ _ => rfl)) (fun h => by cases h)
 ·have he0 : stepA 7 st x = (if x.kind ≠ 0 ∧ st.v.l.any (fun y => cmpV y x == 0) then (0, st) else pushA st x) := by
   unfold stepA
   rw [if_neg (by decide), if_neg (by decide), if_neg (by decide), if_neg (by decide), if_neg (by decide), if_neg (by decide), if_pos rfl]
  by_cases hk : x.kind = 0
  ·have he : addA 7 st x = (0, { st with many := st.many + 1 }) := by
    have hs : stepA 7 st x = (0, st) := by rw [he0, if_neg (fun h => h.1 hk)]; unfold pushA; rw [if_pos hk]
    unfold addA; rw [hs]; rfl
   rw [he, hk]
   exact (radd_miss7 h1 hN).mono fun e w' hR => hpass hR
  obtain ⟨hv, hs, h5, hl, hy⟩ := hI.2.1 (.inr rfl)
  have hpe := push_eq hI (.inr rfl) hk
  have hml : ln0 ≤ 1000 := by omega
  have h2v : VIs (fun k => P k ∧ k ≠ M) w (listV st.v.l) [.int .i64 st.v.kind, .int .i64 st.v.num, .string s0, .slice ba0 bn0 bc0, .slice fa0 fn0 fc0, .slice la0 ln0 lc0] := by rw [← hv]; exact h2
  refine (radd_set h1 hN h2v hx (fun k hk => hk.2) hk (push_ownq hI (.inr rfl) hi hwx) hml).mono fun e w' hR => ?_
  unfold RSet at hR
  by_cases ha : st.v.l.any (fun y => cmpV y x == 0) = true
  ·rw [if_pos ha] at hR
   have he : addA 7 st x = (0, { st with many := st.many + 1 }) := by
    have hs : stepA 7 st x = (0, st) := by rw [he0, if_pos ⟨hk, ha⟩]
    unfold addA; rw [hs]; rfl
   rw [he]
   exact hpass hR
  rw [if_neg ha] at hR
  rw [if_neg (fun h => ha h.2)] at he0
  unfold RPush at hR
  by_cases ho : ownV (listV (st.v.l ++ [x])) < 0
  ·rw [if_pos ho] at hR hpe
   have he : addA 7 st x = (3, st) := by unfold addA; rw [he0, hpe]; rfl
   rw [he]
   exact hR.ref (N := st.many) rfl (h2.beside hR.2.2) (fun h => by cases h)
  ·rw [if_neg ho] at hR hpe
   obtain ⟨u0, u1, u2, u3, u4, u5, hR, hu⟩ := hR
   have he : addA 7 st x = (0, ⟨st.many + 1, listV (st.v.l ++ [x]), ownV (listV (st.v.l ++ [x]))⟩) := by unfold addA; rw [he0, hpe]; rfl
   rw [he]
   exact hR.ref hN1 (hu.keep (fun k hk => by rcases hk with h | h; exact ⟨.inl h.1, h.2⟩; exact ⟨.inr h.1, h.2⟩) (fun _ _ _ => rfl)) (fun h => by cases h)
 ·refine (radd_count h1 hN).mono fun e w' hR => ?_
  rw [count_stepR]
  exact hpass hR
end
end Go.Proofs.YtembpajlllnncaaGreatDoor
namespace Go.Proofs.YtembpajlllnncaaGreatDoor
open Go.RowKit

/-- The reference's new state. -/
theorem newr_all {K : Int} (hK : 1 ≤ K ∧ K ≤ 8) (w : World) : Calls Tryz.prog 7 #[.int .i64 K] w fun e w' => e = .returned (.pointer (some ⟨w.heap.size, 0, none⟩)) ∧ RefIs (fun _ => False) w' w.heap.size K (startA K) ∧ Step [] id id w w' := by
 have hfl : ∀ (W : World) (k : Int), 0 ≤ k ∧ k ≤ 100 → VIs (fun k => False ∧ k ≠ w.heap.size) W (.mk k 0 [] [] [] []) [.int .i64 k, .int .i64 0, (.string ⟨#[]⟩), (.slice none 0 0), (.slice none 0 0), (.slice none 0 0)] := fun W k hk => VIs.flat [] (by omega) (by omega) (by simp)
 by_cases h1 : K = 1
 ·subst h1
  exact (newr_sum w).mono fun e w' h => ⟨h.1, ⟨_, _, _, _, _, _, h.2.1, hfl _ 3 (by omega), fun _ => ⟨.inl rfl, rfl, by decide, rfl, rfl, rfl, rfl⟩⟩, h.2.2⟩
 by_cases h6 : K = 6 ∨ K = 7
 ·have hs : (startA K).v = listV [] := by unfold startA; simp only [h1, h6, if_false, if_true]
  exact (newr_list K h6 w).mono fun e w' h => ⟨h.1, ⟨_, _, _, _, _, _, h.2.1, by rw [hs]; exact hfl _ 7 (by omega), fun h => absurd h h1⟩, h.2.2⟩
 ·have hs : (startA K).v = noneV := by unfold startA; simp only [h1, h6, if_false]
  exact (newr_plain K (by omega) w).mono fun e w' h => ⟨h.1, ⟨_, _, _, _, _, _, h.2.1, by rw [hs]; exact hfl _ 0 (by omega), fun h => absurd h h1⟩, h.2.2⟩
/-- The reference's state in a law: its blocks are of N, or were there before. -/
def RefAt (w0 w : World) (N : List Nat) (M : Nat) (K : Int) (st : ASt) : Prop := M ∈ N ∧ w0.heap.size ≤ M ∧ RefIs (fun k => k < w0.heap.size ∨ k ∈ N) w M K st
section
variable {w0 w w' : World} {S M : Nat} {K : Int} {st : ASt} {N : List Nat}
theorem AccAt.others {L : List Nat} (h : AccAt w0 w N S K st) (hs : Step [M] id id w w') (hM : M ∈ N) (hL : ∀ k ∈ L, w.heap.size ≤ k ∧ k < w'.heap.size) : AccAt w0 w' (N ++ L) S K st := by
 obtain ⟨h1, h2, h3, row, hA⟩ := h
 have hl := hA.lt
 have hw := hA.weak (P2 := fun k => w0.heap.size ≤ k ∧ k ∉ N ++ L) (fun k hk hkl => ⟨hk.1, fun hm => by
  rcases List.mem_append.1 hm with h | h
  ·exact hk.2 h
  ·have := (hL k h).1; omega⟩)
 refine ⟨h1, fun hm => ?_, fun k hk => ?_, row, hw.keep hs ?_ ?_ ?_⟩
 ·rcases List.mem_append.1 hm with h | h
  ·exact h2 h
  ·have := (hL S h).1; omega
 ·rcases List.mem_append.1 hk with h | h
  ·exact Nat.lt_of_lt_of_le (h3 k h) hs.size
  ·exact (hL k h).2
 ·intro hm; rw [List.mem_singleton] at hm; subst hm; exact h2 hM
 ·intro k hk hm; rw [List.mem_singleton] at hm; subst hm; exact (hA.rowP _ hk).2 hM
 ·intro k hk _ hP; rw [List.mem_singleton] at hk; subst hk; exact hP.2 (List.mem_append_left _ hM)
/-- The blocks that came between. -/
def cameL (w w' : World) : List Nat := (List.range w'.heap.size).filter (fun k => decide (w.heap.size ≤ k))
theorem mem_came {k : Nat} : k ∈ cameL w w' ↔ w.heap.size ≤ k ∧ k < w'.heap.size := by
 unfold cameL; rw [List.mem_filter, List.mem_range, decide_eq_true_eq]; exact And.comm
theorem RefAt.step (h : RefAt w0 w N M K st) (hs : Step [] id id w w') : RefAt w0 w' N M K st := ⟨h.1, h.2.1, h.2.2.step hs⟩
theorem RefAt.stepN (h : RefAt w0 w N M K st) (hs : StepN w0 N w w') : RefAt w0 w' N M K st := by
 obtain ⟨T, hs, hT⟩ := hs
 refine ⟨h.1, h.2.1, h.2.2.keep hs (fun hm => (hT M hm).2 h.1) (fun k hk _ hP => ?_)⟩
 have := hT k hk
 rcases hP with h | h
 ·omega
 ·exact this.2 h
/-- The reference takes a value, beside the program's state. -/
def AddB (w0 : World) (S M : Nat) (K : Int) (st st' : ASt) (er : Int) (w : World) (e : Ending) (w' : World) : Prop :=
 e = .returned (.int .i64 er) ∧ ∃ N, AccAt w0 w' N S K st' ∧ RefAt w0 w' N M K st' ∧ Step [] id id w0 w'
theorem radd_at {i : Nat} {x : Val} {cs : List Value} {st' : ASt} (hK : 1 ≤ K ∧ K ≤ 8) (h : RefAt w0 w N M K st) (hA : AccAt w0 w N S K st') (he : st' = (addA K st x).2) (hs0 : Step [] id id w0 w) (hI : InvA K st i) (hi : i ≤ 1000) (hx : VIs (fun k => k < w0.heap.size) w x cs) (hwx : weightV x ≤ 3000) :
  Calls Tryz.prog 13 #[.pointer (some ⟨M, 0, none⟩), .agg cs.toArray] w (AddB w0 S M K st st' (addA K st x).1 w) := by
 refine (radd_all hK h.2.2 hI hi (hx.keep (fun k hk => ⟨.inl hk, by have := h.2.1; omega⟩) (fun _ _ _ => rfl)) hwx).mono fun e w' hR => ?_
 obtain ⟨h1, h2, h3⟩ := hR
 have hLm : ∀ k ∈ cameL w w', w.heap.size ≤ k ∧ k < w'.heap.size := fun k hk => mem_came.1 hk
 refine ⟨h1, N ++ cameL w w', hA.others h3 h.1 hLm, ⟨List.mem_append_left _ h.1, h.2.1, ?_⟩, hs0.tailNew h3 (fun r hr => .inr (by rw [List.mem_singleton] at hr; subst hr; exact h.2.1))⟩
 rw [he]
 refine h2.weak fun k hk hl => ?_
 rcases hk with (h | h) | h
 ·exact .inl h
 ·exact .inr (List.mem_append_left _ h)
 ·exact .inr (List.mem_append_right _ (mem_came.2 ⟨h, hl⟩))
end
set_option maxRecDepth 100000 in
set_option maxHeartbeats 8000000 in
theorem law_adds {w : World} {kind : Int} {la : Option Addr} {n2 c2 : Nat} {l : List Val} {nm : Bs} (ht : Tw w) (hkr : -9223372036854775808 ≤ kind ∧ kind ≤ 9223372036854775807) (hl : LIs (fun k => k < w.heap.size) w l la 0) (hn : n2 = l.length) (hb2 : n2 ≤ 140737488351232) (hnm : nm.length ≤ 140737488351232) :
  Calls Tryz.prog 3 #[.int .i64 kind, .slice la n2 c2, .string (strOf nm)] w fun e w' => e = .returned (.bool true) ∧ Step [] id id w w' := by
 have htH := Lib.hid ht
 have hlH := Lib.hid hl
 have hnH := Lib.hid hn
 have hkd := Lib.hid (fun W => acc_kind nm W)
 have hkn := Lib.hid (fun W => ref_accname nm W)
 obtain ⟨NM, hNM⟩ : ∃ X, X = strOf nm := ⟨_, rfl⟩
 have hNs : NM.size = nm.length := by rw [hNM]; exact strOf_size nm
 rw [← hNM] at hkd hkn ⊢
 clear ht hl hn hNM
 go_enter Tryz.func3, Tryz.ntmps3
 go_wp2_with (go_at_call 4; refine (ac_awake w htH.out).mono ?_; rintro e w1 ⟨rfl, hs1⟩; have hs1H := Lib.hid hs1; clear hs1)
 have hl1 := Lib.hid (LIs.keep (P2 := fun k => k < w.heap.size) (w' := w1) (fun _ h => h) (fun k hk hl => (hs1H.out.keep k hl (by simp)).2) _ _ _ hlH.out)
 refine (law_few hl1.out hnH.out hb2).mono ?_
 rintro e w2 ⟨r, rfl, hr, hs2⟩
 cases r
 ·have hs2H := Lib.hid hs2
  clear hs2 hr
  go_wp2_with fail
  go_ret
  exact ⟨rfl, hs1H.out.tail hs2H.out⟩
 have hfew := Lib.hid (hr rfl)
 have hs2H := Lib.hid (hs1H.out.tail hs2)
 clear hr hs2 hl1
 by_cases hlong : (1000 : Int) < (nm.length : Int)
 ·have hd : decide ((1000 : Int) < (NM.size : Int)) = true := decide_eq_true (by rw [hNs]; exact hlong)
  go_wp2_with fail
  go_ret
  exact ⟨rfl, hs2H.out⟩
 have hd : decide ((1000 : Int) < (NM.size : Int)) = false := decide_eq_false (by rw [hNs]; exact hlong)
 have hd2 : decide ((1000 : Int) < (nm.length : Int)) = false := decide_eq_false hlong
 have hd3 : ¬ 1000 < nm.length := by omega
 clear hlong
 go_wp2_with fail
 obtain ⟨K, hK⟩ : ∃ K, K = wrap64 (1 + wrap64 ((IntKind.u64.wrap kind).tmod 8)) := ⟨_, rfl⟩
 have hKr : 1 ≤ K ∧ K ≤ 8 := by
  have h0 : 0 ≤ IntKind.u64.wrap kind := by
   show 0 ≤ kind % _
   exact Int.emod_nonneg _ (by decide)
  have h1 : (IntKind.u64.wrap kind).tmod 8 = IntKind.u64.wrap kind % 8 := Int.tmod_eq_emod_of_nonneg h0
  have h2 := Int.emod_nonneg (IntKind.u64.wrap kind) (show (8 : Int) ≠ 0 by decide)
  have h3 := Int.emod_lt_of_pos (IntKind.u64.wrap kind) (show (0 : Int) < 8 by decide)
  have e1 : wrap64 (IntKind.u64.wrap kind % 8) = IntKind.u64.wrap kind % 8 := wrap_id (by omega) (by omega)
  rw [hK, h1, e1, wrap_id (by omega) (by omega)]
  omega
 rw [← hK]
 have hKrH := Lib.hid hKr
 clear hK hKr hd hd2 hd3 hNs
 refine (new_at (N := []) hKrH.out htH.out hs2H.out (by simp)).mono ?_
 rintro e w3 ⟨S, rfl, -, hA3, hs3⟩
 have hA3H := Lib.hid hA3
 have hs3H := Lib.hid (hs2H.out.tail hs3)
 clear hA3 hs3
 go_wp2_with fail
 refine (newr_all hKrH.out w3).mono ?_
 rintro e w4 ⟨rfl, hR4, hs4⟩
 obtain ⟨M, hM⟩ : ∃ M, M = w3.heap.size := ⟨_, rfl⟩
 rw [← hM] at hR4 ⊢
 have hA4 : AccAt w w4 [M] S K (startA K) := hA3H.out.other hs4 (by omega) hR4.lt
 have hB4 : RefAt w w4 [M] M K (startA K) := ⟨by simp, by rw [hM]; exact hs3H.out.size, hR4.weak (fun k hk _ => hk.elim)⟩
 have hA4H := Lib.hid hA4
 have hB4H := Lib.hid hB4
 have hs4H := Lib.hid (hs3H.out.tail hs4)
 clear hA4 hB4 hR4 hs4 hM
 go_wp2_with fail
 refine (hkd.out _).mono ?_
 rintro e w5 ⟨rfl, rfl⟩
 go_wp2_with fail
 refine (hkn.out _).mono ?_
 rintro e w6 ⟨rfl, hs6⟩
 have hs6H := Lib.hid (hs4H.out.tail hs6)
 have hA6H := Lib.hid (hA4H.out.step hs6)
 have hB6H := Lib.hid (hB4H.out.step hs6)
 clear hs6 hA4H hB4H
 go_wp2_with fail
 go_loopw [10] (fun iv wr => ∃ (i : Nat) (st : ASt) (N : List Nat), iv = .int .i64 i ∧ i ≤ n2 ∧ InvA K st i ∧ AccAt w wr N S K st ∧ RefAt w wr N M K st ∧ Step [] id id w wr) (fun iv _ => n2 - (intOf iv).toNat)
 case atStart => exact ⟨0, startA K, [M], rfl, Nat.zero_le _, inv_start K, hA6H.out, hB6H.out, hs6H.out⟩
 case round =>
  obtain ⟨i, st, N, rfl, hi, hI, hA, hB, hst⟩ := hrel
  have hIH := Lib.hid hI
  have hAH := Lib.hid hA
  have hBH := Lib.hid hB
  have hstH := Lib.hid hst
  have hn30 := hfew.out.1
  have hi31 : i ≤ 30 := by have := hnH.out; omega
  by_cases hin : i < n2
  ·have hin1 : (i : Int) < (n2 : Int) := by omega
   have hi0 : (0 : Int) ≤ (i : Int) := by omega
   have hil : i < l.length := by rw [← hnH.out]; exact hin
   have hwt := Lib.hid (hfew.out.2 i hil)
   have hlr : LIs (fun k => k < w.heap.size) wr l la 0 := LIs.keep (fun _ h => h) (fun k hk hl => (hst.keep k hl (by simp)).2) _ _ _ hlH.out
   obtain ⟨b, o, cs, hla, -, -, -⟩ := hlr.get hil
   subst hla
   obtain ⟨s, ba, bn, bc, fa, fn, fc, la1, ln1, lc1, hxj, hPb, q0, q1, q2, q3, q4, q5⟩ := elem_at hlr hil
   have hgr : b < wr.heap.size := World.block_lt_of_cell? _ _ q0
   obtain ⟨X, hX⟩ : ∃ X, X = l[i] := ⟨_, rfl⟩
   rw [← hX] at hxj hwt q0 q1
   obtain ⟨k1, hk1⟩ : ∃ k, k = X.kind := ⟨_, rfl⟩
   obtain ⟨m1, hm1⟩ : ∃ k, k = X.num := ⟨_, rfl⟩
   rw [← hk1] at q0 hxj
   rw [← hm1] at q1 hxj
   have hwrap : IntKind.i64.wrap ((i : Int) + 1) = (i : Int) + 1 := IntWalk.i64_in _ (by omega)
   have hxA := Lib.hid (fun (W : World) (hW : Step [] id id w W) => hxj.keep (P2 := fun k => k < w.heap.size) (w' := W) (fun _ h => h) (fun k hk _ => (hW.keep k hk (by simp)).2.trans ((hst.keep k hk (by simp)).2).symm))
   have hbk := fun (W : World) (hW : Step [] id id w W) => (hW.keep b hPb (by simp)).2.trans ((hst.keep b hPb (by simp)).2).symm
   have hcl := Lib.hid (fun (W : World) (hW : Step [] id id w W) => And.intro ((World.cell?_of_block (a := ⟨b, o + i * 6, none⟩) (hbk W hW)).trans q0) (And.intro ((World.cell?_of_block (a := ⟨b, o + i * 6 + 1, none⟩) (hbk W hW)).trans q1) (And.intro ((World.cell?_of_block (a := ⟨b, o + i * 6 + 2, none⟩) (hbk W hW)).trans q2) (And.intro ((World.cell?_of_block (a := ⟨b, o + i * 6 + 3, none⟩) (hbk W hW)).trans q3) (And.intro ((World.cell?_of_block (a := ⟨b, o + i * 6 + 4, none⟩) (hbk W hW)).trans q4) ((World.cell?_of_block (a := ⟨b, o + i * 6 + 5, none⟩) (hbk W hW)).trans q5))))))
   have hnone : VIs (fun k => k < w.heap.size) wr noneV [.int .i64 0, .int .i64 0, (.string ⟨#[]⟩), (.slice none 0 0), (.slice none 0 0), (.slice none 0 0)] := VIs.flat [] (by omega) (by omega) (by simp)
   have hsm := Lib.hid (ref_same hxj hnone)
   clear hI hA hB hst hlr hxj hk1 hm1 hX hnone hbk
   go_wp2_with fail
   refine hsm.out.mono ?_
   rintro e w7 ⟨r, rfl, -, hs7⟩
   have hs7H := Lib.hid (hstH.out.tail hs7)
   have hs70H := Lib.hid hs7
   clear hs7 q0 q1 q2 q3 q4 q5
   obtain ⟨q0, q1, q2, q3, q4, q5⟩ := hcl.out w7 hs7H.out
   have hgr7 : b < w7.heap.size := World.block_lt_of_cell? _ _ q0
   cases r
   ·obtain ⟨W8, hW8⟩ : ∃ W8, W8 = w7.alloc (.cells #[(.string ⟨#[]⟩), .int .i64 k1, .int .i64 m1, .string s, .slice ba bn bc, .slice fa fn fc, .slice la1 ln1 lc1] 38) := ⟨_, rfl⟩
    have hs8 : Step [] id id w7 W8 := by rw [hW8]; exact Step.alloc _
    have hB8 : W8.heap[w7.heap.size]? = some (.cells #[(.string ⟨#[]⟩), .int .i64 k1, .int .i64 m1, .string s, .slice ba bn bc, .slice fa fn fc, .slice la1 ln1 lc1] 38 (0, 0)) := by rw [hW8]; exact heap_alloc_new w7 _
    have hx8 := hxA.out W8 (hs7H.out.tail hs8)
    have hm := Lib.hid (ref_may (vis_doc1 hx8.low hB8 (lt_of_block hB8)) (by have := hwt.out; simp [weightV, weightFs, weightLs]; omega))
    have hs8H := Lib.hid hs8
    have hW8H := Lib.hid hW8
    clear hs8 hB8 hx8 hW8
    go_wp2_with fail
    rw [← hW8H.out]
    refine hm.out.mono ?_
    rintro e w9 ⟨r, rfl, hs9⟩
    have hs9H := Lib.hid ((hs7H.out.tail hs8H.out).tail hs9)
    have hs90H := Lib.hid ((hs70H.out.tail hs8H.out).tail hs9)
    clear hs9 q0 q1 q2 q3 q4 q5
    cases r
    ·go_wp2_with fail
     go_ret
     exact ⟨rfl, hs9H.out⟩
    ·obtain ⟨q0, q1, q2, q3, q4, q5⟩ := hcl.out w9 hs9H.out
     have hgr9 : b < w9.heap.size := World.block_lt_of_cell? _ _ q0
     go_wp2_with fail
     obtain ⟨ER, hER⟩ : ∃ E, E = (addA K st X).1 := ⟨_, rfl⟩
     obtain ⟨ST, hST⟩ : ∃ E, E = (addA K st X).2 := ⟨_, rfl⟩
     have hI' := Lib.hid (show InvA K ST (i + 1) by rw [hST]; exact inv_add hKrH.out hIH.out hwt.out)
     obtain ⟨Z, hZ⟩ : ∃ Z, Z = sizeA K ST := ⟨_, rfl⟩
     have hERH := Lib.hid hER
     have hSTH := Lib.hid hST
     have hZH := Lib.hid hZ
     clear hER hST hZ
     refine wp_region_held_drew (S := fun w' => w'.cell? ⟨b, o + i * 6, none⟩ = some (.int .i64 k1) ∧ w'.cell? ⟨b, o + i * 6 + 1, none⟩ = some (.int .i64 m1) ∧ w'.cell? ⟨b, o + i * 6 + 2, none⟩ = some (.string s) ∧ w'.cell? ⟨b, o + i * 6 + 3, none⟩ = some (.slice ba bn bc) ∧ w'.cell? ⟨b, o + i * 6 + 4, none⟩ = some (.slice fa fn fc) ∧ w'.cell? ⟨b, o + i * 6 + 5, none⟩ = some (.slice la1 ln1 lc1)) (by kernel_rfl) ⟨q0, q1, q2, q3, q4, q5⟩ (fun hHeld => ?_)
     refine tkH 0 ?_ rfl (by kernel_rfl) (fun _ _ _ h => h) ?_ hHeld ?_
     rotate_left
     ·intro w' hSw; (try dsimp only at hSw); go_simp
      all_goals (with_reducible rfl)
     simp only [zP, zO, zA, zB, zC, zD, zE, zF]
     refine tkH 1 ?_ rfl (by kernel_rfl) (fun _ _ _ h => h) ?_ hHeld ?_
     rotate_left
     ·intro w' hSw; (try dsimp only at hSw); go_simp
      all_goals (with_reducible rfl)
     simp only [zP, zO, zA, zB, zC, zD, zE, zF]
     refine tkH 2 ?_ rfl (by kernel_rfl) (fun _ _ _ h => h) ?_ hHeld ?_
     rotate_left
     ·intro w' hSw; (try dsimp only at hSw); go_simp
      all_goals (with_reducible rfl)
     simp only [zP, zO, zA, zB, zC, zD, zE, zF]
     refine tkH 3 ?_ rfl (by kernel_rfl) (fun _ _ _ h => h) ?_ hHeld ?_
     rotate_left
     ·intro w' hSw; (try dsimp only at hSw); go_simp
      all_goals (with_reducible rfl)
     simp only [zP, zO, zA, zB, zC, zD, zE, zF]
     refine tkH 4 ?_ rfl (by kernel_rfl) (fun _ _ _ h => h) ?_ hHeld ?_
     rotate_left
     ·intro w' hSw; (try dsimp only at hSw); go_simp
      all_goals (with_reducible rfl)
     simp only [zP, zO, zA, zB, zC, zD, zE, zF]
     refine tkH 6 ?_ rfl (by kernel_rfl) (fun _ _ _ h => h) ?_ hHeld ?_
     rotate_left
     ·intro w' hSw; (try dsimp only at hSw); go_simp
      all_goals (with_reducible rfl)
     simp only [zP, zO, zA, zB, zC, zD, zE, zF]
     refine tkH 7 ?_ rfl (by kernel_rfl) (fun _ _ _ h => h) ?_ hHeld ?_
     rotate_left
     ·intro w' hSw; (try dsimp only at hSw); go_simp
      all_goals (with_reducible rfl)
     simp only [zP, zO, zA, zB, zC, zD, zE, zF]
     refine tkH 8 ?_ rfl (by kernel_rfl) (fun _ _ _ h => h) ?_ hHeld ?_
     rotate_left
     ·intro w' hSw; (try dsimp only at hSw); go_simp
      all_goals (with_reducible rfl)
     simp only [zP, zO, zA, zB, zC, zD, zE, zF]
     refine tkH 9 ?_ rfl (by kernel_rfl) (fun _ _ _ h => h) ?_ hHeld ?_
     rotate_left
     ·intro w' hSw; (try dsimp only at hSw); go_simp
      all_goals (with_reducible rfl)
     simp only [zP, zO, zA, zB, zC, zD, zE, zF]
     refine tkH 10 ?_ rfl (by kernel_rfl) (fun _ _ _ h => h) ?_ hHeld ?_
     rotate_left
     ·intro w' hSw; (try dsimp only at hSw); go_simp
      all_goals (with_reducible rfl)
     simp only [zP, zO, zA, zB, zC, zD, zE, zF]
     refine wpAnyH_ready (rs := [5]) (by kernel_rfl) (by simp) ?_
     refine AllReadyH.cons (o := _) rfl (fun K hK => ?_) AllReadyH.nil
     go_simp
     refine (add_at hKrH.out htH.out (hs9H.out.tail Step.drew) ((hAH.out.step hs90H.out).step Step.drew) (by have := hIH.out.1; omega) (hxA.out _ (hs9H.out.tail Step.drew)) (fun k hk e => by have := hAH.out.1; omega) (by have := hwt.out; omega) (fun _ => or_compare _ _) (fun _ _ _ _ => or_compare _ _)).mono ?_
     rintro e y1 ⟨rfl, hA1, hN1⟩
     rw [← hERH.out]
     rw [← hSTH.out] at hA1
     have hs1 : Step [] id id w y1 := hN1.all (hs9H.out.tail Step.drew)
     have hB1 := ((hBH.out.step hs90H.out).step Step.drew).stepN hN1
     have hA1H := Lib.hid hA1
     have hB1H := Lib.hid hB1
     have hs1H := Lib.hid hs1
     clear hA1 hN1 hB1 hs1
     go_wp2_with fail
     refine hK.out _ _ ?_ (fun hHeld => ?_)
     ·exact hcl.out _ hs1H.out
     clear hK K
     refine wpAnyH_ready (rs := [11]) (by kernel_rfl) (by simp) ?_
     refine AllReadyH.cons (o := _) rfl (fun K hK => ?_) AllReadyH.nil
     go_simp
     refine (radd_at hKrH.out hB1H.out hA1H.out hSTH.out hs1H.out hIH.out (by omega) (hxA.out _ hs1H.out) hwt.out).mono ?_
     rintro e y2 ⟨rfl, N2, hA2, hB2, hs2⟩
     rw [← hERH.out]
     have hA2H := Lib.hid hA2
     have hB2H := Lib.hid hB2
     have hs2H := Lib.hid hs2
     clear hA2 hB2 hs2
     go_wp2_with fail
     refine hK.out _ _ ?_ (fun hHeld => ?_)
     ·exact hcl.out _ hs2H.out
     clear hK K
     refine tkH 12 ?_ rfl (by kernel_rfl) (fun _ _ _ h => h) ?_ hHeld ?_
     rotate_left
     ·intro w' hSw; (try dsimp only at hSw); go_simp
      all_goals (with_reducible rfl)
     simp only [zP, zO, zA, zB, zC, zD, zE, zF]
     refine tkH 13 ?_ rfl (by kernel_rfl) (fun _ _ _ h => h) ?_ hHeld ?_
     rotate_left
     ·intro w' hSw; (try dsimp only at hSw); go_simp
      all_goals (with_reducible rfl)
     simp only [zP, zO, zA, zB, zC, zD, zE, zF]
     refine tkH 14 ?_ rfl (by kernel_rfl) (fun _ _ _ h => h) ?_ hHeld ?_
     rotate_left
     ·intro w' hSw; (try dsimp only at hSw); go_simp
      all_goals (with_reducible rfl)
     simp only [zP, zO, zA, zB, zC, zD, zE, zF]
     refine tkH 16 ?_ rfl (by kernel_rfl) (fun _ _ _ h => h) ?_ hHeld ?_
     rotate_left
     ·intro w' hSw; (try dsimp only at hSw); go_simp
      all_goals (with_reducible rfl)
     simp only [zP, zO, zA, zB, zC, zD, zE, zF]
     refine wpAnyH_ready (rs := [15]) (by kernel_rfl) (by simp) ?_
     refine AllReadyH.cons (o := _) rfl (fun K hK => ?_) AllReadyH.nil
     go_simp
     refine (value_at hKrH.out hA2H.out (by have := hI'.out.1; omega) (inv_weight hI'.out (by omega))).mono ?_
     rintro e y3 ⟨ds, rfl, hxd, hs3⟩
     have hA3H := Lib.hid (hA2H.out.step hs3)
     have hB3H := Lib.hid (hB2H.out.step hs3)
     have hs3H := Lib.hid (hs2H.out.tail hs3)
     have hxdH := Lib.hid hxd
     clear hxd hs3
     go_wp2_with fail
     refine hK.out _ _ ?_ (fun hHeld => ?_)
     ·exact hcl.out _ hs3H.out
     clear hK K
     refine wpAnyH_ready (rs := [17]) (by kernel_rfl) (by simp) ?_
     refine AllReadyH.cons (o := _) rfl (fun K hK => ?_) AllReadyH.nil
     go_simp
     refine (refv_all hKrH.out hB3H.out.2.2 (by have := hI'.out.1; omega)).mono ?_
     rintro e y4 ⟨ds2, rfl, hyd, hs4⟩
     have hA4H := Lib.hid (hA3H.out.step hs4)
     have hB4H := Lib.hid (hB3H.out.step hs4)
     have hs4H := Lib.hid (hs3H.out.tail hs4)
     have hsame := Lib.hid (ref_same (P := fun _ => True) (hxdH.out.keep (P2 := fun _ => True) (w' := y4) (fun _ _ => trivial) (fun k _ hk => (hs4.keep k hk (by simp)).2)) hyd)
     clear hyd hs4
     go_wp2_with fail
     refine hK.out _ _ ?_ (fun hHeld => ?_)
     ·exact hcl.out _ hs4H.out
     clear hK K
     refine wpAnyH_ready (rs := [18]) (by kernel_rfl) (by simp) ?_
     refine AllReadyH.cons (o := _) rfl (fun K hK => ?_) AllReadyH.nil
     go_simp
     refine hsame.out.mono ?_
     rintro e y5 ⟨r, rfl, hr, hs5⟩
     obtain rfl : r = true := hr.2 rfl
     have hA5H := Lib.hid (hA4H.out.step hs5)
     have hB5H := Lib.hid (hB4H.out.step hs5)
     have hs5H := Lib.hid (hs4H.out.tail hs5)
     clear hr hs5
     go_wp2_with fail
     refine hK.out _ _ ?_ (fun hHeld => ?_)
     ·exact hcl.out _ hs5H.out
     clear hK K
     refine tkH 19 ?_ rfl (by kernel_rfl) (fun _ _ _ h => h) ?_ hHeld ?_
     rotate_left
     ·intro w' hSw; (try dsimp only at hSw); go_simp
      all_goals (with_reducible rfl)
     simp only [zP, zO, zA, zB, zC, zD, zE, zF]
     refine tkH 20 ?_ rfl (by kernel_rfl) (fun _ _ _ h => h) ?_ hHeld ?_
     rotate_left
     ·intro w' hSw; (try dsimp only at hSw); go_simp
      all_goals (with_reducible rfl)
     simp only [zP, zO, zA, zB, zC, zD, zE, zF]
     refine tkH 21 ?_ rfl (by kernel_rfl) (fun _ _ _ h => h) ?_ hHeld ?_
     rotate_left
     ·intro w' hSw; (try dsimp only at hSw); go_simp
      all_goals (with_reducible rfl)
     simp only [zP, zO, zA, zB, zC, zD, zE, zF]
     refine tkH 22 ?_ rfl (by kernel_rfl) (fun _ _ _ h => h) ?_ hHeld ?_
     rotate_left
     ·intro w' hSw; (try dsimp only at hSw); go_simp
      all_goals (with_reducible rfl)
     simp only [zP, zO, zA, zB, zC, zD, zE, zF]
     refine tkH 24 ?_ rfl (by kernel_rfl) (fun _ _ _ h => h) ?_ hHeld ?_
     rotate_left
     ·intro w' hSw; (try dsimp only at hSw); go_simp
      all_goals (with_reducible rfl)
     simp only [zP, zO, zA, zB, zC, zD, zE, zF]
     refine wpAnyH_ready (rs := [23]) (by kernel_rfl) (by simp) ?_
     refine AllReadyH.cons (o := _) rfl (fun K hK => ?_) AllReadyH.nil
     go_simp
     refine (size_at htH.out hs5H.out hA5H.out).mono ?_
     rintro e y6 ⟨rfl, hs6⟩
     rw [← hZH.out]
     have hA6H := Lib.hid (hA5H.out.step hs6)
     have hB6H := Lib.hid (hB5H.out.step hs6)
     have hs6H := Lib.hid (hs5H.out.tail hs6)
     clear hs6
     go_wp2_with fail
     refine hK.out _ _ ?_ (fun hHeld => ?_)
     ·exact hcl.out _ hs6H.out
     clear hK K
     refine wpAnyH_ready (rs := [25]) (by kernel_rfl) (by simp) ?_
     refine AllReadyH.cons (o := _) rfl (fun K hK => ?_) AllReadyH.nil
     go_simp
     refine (refs_all hB6H.out.2.2 hI'.out (inv_ownq hI'.out (by omega))).mono ?_
     rintro e y7 ⟨rfl, hs7⟩
     rw [← hZH.out]
     have hA7H := Lib.hid (hA6H.out.step hs7)
     have hB7H := Lib.hid (hB6H.out.step hs7)
     have hs7H := Lib.hid (hs6H.out.tail hs7)
     clear hs7
     go_wp2_with fail
     refine hK.out _ _ ?_ (fun hHeld => ?_)
     ·exact hcl.out _ hs7H.out
     clear hK K
     refine tkH 26 ?_ rfl (by kernel_rfl) (fun _ _ _ h => h) ?_ hHeld ?_
     rotate_left
     ·intro w' hSw; (try dsimp only at hSw); go_simp
      all_goals (with_reducible rfl)
     simp only [zP, zO, zA, zB, zC, zD, zE, zF]
     refine tkH 27 ?_ rfl (by kernel_rfl) (fun _ _ _ h => h) ?_ hHeld ?_
     rotate_left
     ·intro w' hSw; (try dsimp only at hSw); go_simp
      all_goals (with_reducible rfl)
     simp only [zP, zO, zA, zB, zC, zD, zE, zF]
     refine wpAnyH_done (by kernel_rfl) ?_ _
     clear q0 q1 q2 q3 q4 q5 hHeld
     go_wp2_with fail
     go_roundw
     case rel => exact ⟨i + 1, ST, N2, by go_num, by omega, hI'.out, hA7H.out, hB7H.out, hs7H.out⟩
     case measure => simp [intOf]; omega
   ·go_wp2_with fail
    obtain ⟨ER, hER⟩ : ∃ E, E = (addA K st X).1 := ⟨_, rfl⟩
    obtain ⟨ST, hST⟩ : ∃ E, E = (addA K st X).2 := ⟨_, rfl⟩
    have hI' := Lib.hid (show InvA K ST (i + 1) by rw [hST]; exact inv_add hKrH.out hIH.out hwt.out)
    obtain ⟨Z, hZ⟩ : ∃ Z, Z = sizeA K ST := ⟨_, rfl⟩
    have hERH := Lib.hid hER
    have hSTH := Lib.hid hST
    have hZH := Lib.hid hZ
    clear hER hST hZ
    refine wp_region_held_drew (S := fun w' => w'.cell? ⟨b, o + i * 6, none⟩ = some (.int .i64 k1) ∧ w'.cell? ⟨b, o + i * 6 + 1, none⟩ = some (.int .i64 m1) ∧ w'.cell? ⟨b, o + i * 6 + 2, none⟩ = some (.string s) ∧ w'.cell? ⟨b, o + i * 6 + 3, none⟩ = some (.slice ba bn bc) ∧ w'.cell? ⟨b, o + i * 6 + 4, none⟩ = some (.slice fa fn fc) ∧ w'.cell? ⟨b, o + i * 6 + 5, none⟩ = some (.slice la1 ln1 lc1)) (by kernel_rfl) ⟨q0, q1, q2, q3, q4, q5⟩ (fun hHeld => ?_)
    refine tkH 0 ?_ rfl (by kernel_rfl) (fun _ _ _ h => h) ?_ hHeld ?_
    rotate_left
    ·intro w' hSw; (try dsimp only at hSw); go_simp
     all_goals (with_reducible rfl)
    simp only [zP, zO, zA, zB, zC, zD, zE, zF]
    refine tkH 1 ?_ rfl (by kernel_rfl) (fun _ _ _ h => h) ?_ hHeld ?_
    rotate_left
    ·intro w' hSw; (try dsimp only at hSw); go_simp
     all_goals (with_reducible rfl)
    simp only [zP, zO, zA, zB, zC, zD, zE, zF]
    refine tkH 2 ?_ rfl (by kernel_rfl) (fun _ _ _ h => h) ?_ hHeld ?_
    rotate_left
    ·intro w' hSw; (try dsimp only at hSw); go_simp
     all_goals (with_reducible rfl)
    simp only [zP, zO, zA, zB, zC, zD, zE, zF]
    refine tkH 3 ?_ rfl (by kernel_rfl) (fun _ _ _ h => h) ?_ hHeld ?_
    rotate_left
    ·intro w' hSw; (try dsimp only at hSw); go_simp
     all_goals (with_reducible rfl)
    simp only [zP, zO, zA, zB, zC, zD, zE, zF]
    refine tkH 4 ?_ rfl (by kernel_rfl) (fun _ _ _ h => h) ?_ hHeld ?_
    rotate_left
    ·intro w' hSw; (try dsimp only at hSw); go_simp
     all_goals (with_reducible rfl)
    simp only [zP, zO, zA, zB, zC, zD, zE, zF]
    refine tkH 6 ?_ rfl (by kernel_rfl) (fun _ _ _ h => h) ?_ hHeld ?_
    rotate_left
    ·intro w' hSw; (try dsimp only at hSw); go_simp
     all_goals (with_reducible rfl)
    simp only [zP, zO, zA, zB, zC, zD, zE, zF]
    refine tkH 7 ?_ rfl (by kernel_rfl) (fun _ _ _ h => h) ?_ hHeld ?_
    rotate_left
    ·intro w' hSw; (try dsimp only at hSw); go_simp
     all_goals (with_reducible rfl)
    simp only [zP, zO, zA, zB, zC, zD, zE, zF]
    refine tkH 8 ?_ rfl (by kernel_rfl) (fun _ _ _ h => h) ?_ hHeld ?_
    rotate_left
    ·intro w' hSw; (try dsimp only at hSw); go_simp
     all_goals (with_reducible rfl)
    simp only [zP, zO, zA, zB, zC, zD, zE, zF]
    refine tkH 9 ?_ rfl (by kernel_rfl) (fun _ _ _ h => h) ?_ hHeld ?_
    rotate_left
    ·intro w' hSw; (try dsimp only at hSw); go_simp
     all_goals (with_reducible rfl)
    simp only [zP, zO, zA, zB, zC, zD, zE, zF]
    refine tkH 10 ?_ rfl (by kernel_rfl) (fun _ _ _ h => h) ?_ hHeld ?_
    rotate_left
    ·intro w' hSw; (try dsimp only at hSw); go_simp
     all_goals (with_reducible rfl)
    simp only [zP, zO, zA, zB, zC, zD, zE, zF]
    refine wpAnyH_ready (rs := [5]) (by kernel_rfl) (by simp) ?_
    refine AllReadyH.cons (o := _) rfl (fun K hK => ?_) AllReadyH.nil
    go_simp
    refine (add_at hKrH.out htH.out (hs7H.out.tail Step.drew) ((hAH.out.step hs70H.out).step Step.drew) (by have := hIH.out.1; omega) (hxA.out _ (hs7H.out.tail Step.drew)) (fun k hk e => by have := hAH.out.1; omega) (by have := hwt.out; omega) (fun _ => or_compare _ _) (fun _ _ _ _ => or_compare _ _)).mono ?_
    rintro e y1 ⟨rfl, hA1, hN1⟩
    rw [← hERH.out]
    rw [← hSTH.out] at hA1
    have hs1 : Step [] id id w y1 := hN1.all (hs7H.out.tail Step.drew)
    have hB1 := ((hBH.out.step hs70H.out).step Step.drew).stepN hN1
    have hA1H := Lib.hid hA1
    have hB1H := Lib.hid hB1
    have hs1H := Lib.hid hs1
    clear hA1 hN1 hB1 hs1
    go_wp2_with fail
    refine hK.out _ _ ?_ (fun hHeld => ?_)
    ·exact hcl.out _ hs1H.out
    clear hK K
    refine wpAnyH_ready (rs := [11]) (by kernel_rfl) (by simp) ?_
    refine AllReadyH.cons (o := _) rfl (fun K hK => ?_) AllReadyH.nil
    go_simp
    refine (radd_at hKrH.out hB1H.out hA1H.out hSTH.out hs1H.out hIH.out (by omega) (hxA.out _ hs1H.out) hwt.out).mono ?_
    rintro e y2 ⟨rfl, N2, hA2, hB2, hs2⟩
    rw [← hERH.out]
    have hA2H := Lib.hid hA2
    have hB2H := Lib.hid hB2
    have hs2H := Lib.hid hs2
    clear hA2 hB2 hs2
    go_wp2_with fail
    refine hK.out _ _ ?_ (fun hHeld => ?_)
    ·exact hcl.out _ hs2H.out
    clear hK K
    refine tkH 12 ?_ rfl (by kernel_rfl) (fun _ _ _ h => h) ?_ hHeld ?_
    rotate_left
    ·intro w' hSw; (try dsimp only at hSw); go_simp
     all_goals (with_reducible rfl)
    simp only [zP, zO, zA, zB, zC, zD, zE, zF]
    refine tkH 13 ?_ rfl (by kernel_rfl) (fun _ _ _ h => h) ?_ hHeld ?_
    rotate_left
    ·intro w' hSw; (try dsimp only at hSw); go_simp
     all_goals (with_reducible rfl)
    simp only [zP, zO, zA, zB, zC, zD, zE, zF]
    refine tkH 14 ?_ rfl (by kernel_rfl) (fun _ _ _ h => h) ?_ hHeld ?_
    rotate_left
    ·intro w' hSw; (try dsimp only at hSw); go_simp
     all_goals (with_reducible rfl)
    simp only [zP, zO, zA, zB, zC, zD, zE, zF]
    refine tkH 16 ?_ rfl (by kernel_rfl) (fun _ _ _ h => h) ?_ hHeld ?_
    rotate_left
    ·intro w' hSw; (try dsimp only at hSw); go_simp
     all_goals (with_reducible rfl)
    simp only [zP, zO, zA, zB, zC, zD, zE, zF]
    refine wpAnyH_ready (rs := [15]) (by kernel_rfl) (by simp) ?_
    refine AllReadyH.cons (o := _) rfl (fun K hK => ?_) AllReadyH.nil
    go_simp
    refine (value_at hKrH.out hA2H.out (by have := hI'.out.1; omega) (inv_weight hI'.out (by omega))).mono ?_
    rintro e y3 ⟨ds, rfl, hxd, hs3⟩
    have hA3H := Lib.hid (hA2H.out.step hs3)
    have hB3H := Lib.hid (hB2H.out.step hs3)
    have hs3H := Lib.hid (hs2H.out.tail hs3)
    have hxdH := Lib.hid hxd
    clear hxd hs3
    go_wp2_with fail
    refine hK.out _ _ ?_ (fun hHeld => ?_)
    ·exact hcl.out _ hs3H.out
    clear hK K
    refine wpAnyH_ready (rs := [17]) (by kernel_rfl) (by simp) ?_
    refine AllReadyH.cons (o := _) rfl (fun K hK => ?_) AllReadyH.nil
    go_simp
    refine (refv_all hKrH.out hB3H.out.2.2 (by have := hI'.out.1; omega)).mono ?_
    rintro e y4 ⟨ds2, rfl, hyd, hs4⟩
    have hA4H := Lib.hid (hA3H.out.step hs4)
    have hB4H := Lib.hid (hB3H.out.step hs4)
    have hs4H := Lib.hid (hs3H.out.tail hs4)
    have hsame := Lib.hid (ref_same (P := fun _ => True) (hxdH.out.keep (P2 := fun _ => True) (w' := y4) (fun _ _ => trivial) (fun k _ hk => (hs4.keep k hk (by simp)).2)) hyd)
    clear hyd hs4
    go_wp2_with fail
    refine hK.out _ _ ?_ (fun hHeld => ?_)
    ·exact hcl.out _ hs4H.out
    clear hK K
    refine wpAnyH_ready (rs := [18]) (by kernel_rfl) (by simp) ?_
    refine AllReadyH.cons (o := _) rfl (fun K hK => ?_) AllReadyH.nil
    go_simp
    refine hsame.out.mono ?_
    rintro e y5 ⟨r, rfl, hr, hs5⟩
    obtain rfl : r = true := hr.2 rfl
    have hA5H := Lib.hid (hA4H.out.step hs5)
    have hB5H := Lib.hid (hB4H.out.step hs5)
    have hs5H := Lib.hid (hs4H.out.tail hs5)
    clear hr hs5
    go_wp2_with fail
    refine hK.out _ _ ?_ (fun hHeld => ?_)
    ·exact hcl.out _ hs5H.out
    clear hK K
    refine tkH 19 ?_ rfl (by kernel_rfl) (fun _ _ _ h => h) ?_ hHeld ?_
    rotate_left
    ·intro w' hSw; (try dsimp only at hSw); go_simp
     all_goals (with_reducible rfl)
    simp only [zP, zO, zA, zB, zC, zD, zE, zF]
    refine tkH 20 ?_ rfl (by kernel_rfl) (fun _ _ _ h => h) ?_ hHeld ?_
    rotate_left
    ·intro w' hSw; (try dsimp only at hSw); go_simp
     all_goals (with_reducible rfl)
    simp only [zP, zO, zA, zB, zC, zD, zE, zF]
    refine tkH 21 ?_ rfl (by kernel_rfl) (fun _ _ _ h => h) ?_ hHeld ?_
    rotate_left
    ·intro w' hSw; (try dsimp only at hSw); go_simp
     all_goals (with_reducible rfl)
    simp only [zP, zO, zA, zB, zC, zD, zE, zF]
    refine tkH 22 ?_ rfl (by kernel_rfl) (fun _ _ _ h => h) ?_ hHeld ?_
    rotate_left
    ·intro w' hSw; (try dsimp only at hSw); go_simp
     all_goals (with_reducible rfl)
    simp only [zP, zO, zA, zB, zC, zD, zE, zF]
    refine tkH 24 ?_ rfl (by kernel_rfl) (fun _ _ _ h => h) ?_ hHeld ?_
    rotate_left
    ·intro w' hSw; (try dsimp only at hSw); go_simp
     all_goals (with_reducible rfl)
    simp only [zP, zO, zA, zB, zC, zD, zE, zF]
    refine wpAnyH_ready (rs := [23]) (by kernel_rfl) (by simp) ?_
    refine AllReadyH.cons (o := _) rfl (fun K hK => ?_) AllReadyH.nil
    go_simp
    refine (size_at htH.out hs5H.out hA5H.out).mono ?_
    rintro e y6 ⟨rfl, hs6⟩
    rw [← hZH.out]
    have hA6H := Lib.hid (hA5H.out.step hs6)
    have hB6H := Lib.hid (hB5H.out.step hs6)
    have hs6H := Lib.hid (hs5H.out.tail hs6)
    clear hs6
    go_wp2_with fail
    refine hK.out _ _ ?_ (fun hHeld => ?_)
    ·exact hcl.out _ hs6H.out
    clear hK K
    refine wpAnyH_ready (rs := [25]) (by kernel_rfl) (by simp) ?_
    refine AllReadyH.cons (o := _) rfl (fun K hK => ?_) AllReadyH.nil
    go_simp
    refine (refs_all hB6H.out.2.2 hI'.out (inv_ownq hI'.out (by omega))).mono ?_
    rintro e y7 ⟨rfl, hs7⟩
    rw [← hZH.out]
    have hA7H := Lib.hid (hA6H.out.step hs7)
    have hB7H := Lib.hid (hB6H.out.step hs7)
    have hs7H := Lib.hid (hs6H.out.tail hs7)
    clear hs7
    go_wp2_with fail
    refine hK.out _ _ ?_ (fun hHeld => ?_)
    ·exact hcl.out _ hs7H.out
    clear hK K
    refine tkH 26 ?_ rfl (by kernel_rfl) (fun _ _ _ h => h) ?_ hHeld ?_
    rotate_left
    ·intro w' hSw; (try dsimp only at hSw); go_simp
     all_goals (with_reducible rfl)
    simp only [zP, zO, zA, zB, zC, zD, zE, zF]
    refine tkH 27 ?_ rfl (by kernel_rfl) (fun _ _ _ h => h) ?_ hHeld ?_
    rotate_left
    ·intro w' hSw; (try dsimp only at hSw); go_simp
     all_goals (with_reducible rfl)
    simp only [zP, zO, zA, zB, zC, zD, zE, zF]
    refine wpAnyH_done (by kernel_rfl) ?_ _
    clear q0 q1 q2 q3 q4 q5 hHeld
    go_wp2_with fail
    go_roundw
    case rel => exact ⟨i + 1, ST, N2, by go_num, by omega, hI'.out, hA7H.out, hB7H.out, hs7H.out⟩
    case measure => simp [intOf]; omega
  ·have hin1 : ¬ (i : Int) < (n2 : Int) := by omega
   clear hI hA hB hst
   go_wp2_with fail
   refine (value_at hKrH.out hAH.out (by have := hIH.out.1; omega) (inv_weight hIH.out (by omega))).mono ?_
   rintro e w7 ⟨ds, rfl, hxd, hs7⟩
   have hA7H := Lib.hid (hAH.out.step hs7)
   have hB7H := Lib.hid (hBH.out.step hs7)
   have hs7H := Lib.hid (hstH.out.tail hs7)
   have hxdH := Lib.hid hxd
   clear hxd hs7
   go_wp2_with fail
   refine (refv_all hKrH.out hB7H.out.2.2 (by have := hIH.out.1; omega)).mono ?_
   rintro e w8 ⟨ds2, rfl, hyd, hs8⟩
   have hA8H := Lib.hid (hA7H.out.step hs8)
   have hB8H := Lib.hid (hB7H.out.step hs8)
   have hs8H := Lib.hid (hs7H.out.tail hs8)
   have hsame := Lib.hid (ref_same (P := fun _ => True) (hxdH.out.keep (P2 := fun _ => True) (w' := w8) (fun _ _ => trivial) (fun k _ hk => (hs8.keep k hk (by simp)).2)) hyd)
   clear hyd hs8
   go_wp2_with fail
   refine hsame.out.mono ?_
   rintro e w9 ⟨r, rfl, hr, hs9⟩
   obtain rfl : r = true := hr.2 rfl
   have hA9H := Lib.hid (hA8H.out.step hs9)
   have hB9H := Lib.hid (hB8H.out.step hs9)
   have hs9H := Lib.hid (hs8H.out.tail hs9)
   clear hr hs9
   obtain ⟨Z, hZ⟩ : ∃ Z, Z = sizeA K st := ⟨_, rfl⟩
   go_wp2_with fail
   refine (size_at htH.out hs9H.out hA9H.out).mono ?_
   rintro e w10 ⟨rfl, hs10⟩
   rw [← hZ]
   have hB10H := Lib.hid (hB9H.out.step hs10)
   have hs10H := Lib.hid (hs9H.out.tail hs10)
   clear hs10
   go_wp2_with fail
   refine (refs_all hB10H.out.2.2 hIH.out (inv_ownq hIH.out (by omega))).mono ?_
   rintro e w11 ⟨rfl, hs11⟩
   rw [← hZ]
   have hs11H := Lib.hid (hs10H.out.tail hs11)
   clear hs11 hZ
   go_wp2_with fail
   go_ret
   exact ⟨by simp, hs11H.out⟩
end Go.Proofs.YtembpajlllnncaaGreatDoor
