/- bson: a list's items as fields. -/
import Derived.Test.YtembpajlllnncaaGreatDoorBsB
import Derived.Test.YtembpajlllnncaaGreatDoorBsA
import Derived.Test.YtembpajlllnncaaGreatDoorShelf
set_option linter.unusedVariables false
set_option linter.unusedSimpArgs false
namespace Go.Proofs.YtembpajlllnncaaGreatDoor
open Go.RowKit

abbrev Pow10 (w : World) : Prop := Lib.TabIs Tryz.prog w "internal/strconv.uint64pow10" .u64 Lib.pow10Tab
theorem Pow10.keep {w w' : World} (h : Pow10 w) (hg : w.grownBy w' none) : Pow10 w' := by
 unfold Pow10 Lib.TabIs World.var? at h ⊢
 cases hn : Tryz.prog.globalNamed "internal/strconv.uint64pow10" with
 | none => rw [hn] at h; simp at h
 | some g =>
  rw [hn] at h
  simp only [Option.bind_some] at h ⊢
  cases hb : w.heap[g]? with
  | none => rw [hb] at h; simp at h
  | some o => rw [hg.block g (lt_of_block hb) (by simp), hb]; rw [hb] at h; exact h
theorem decDigits_itoa (n : Nat) : Lib.decDigits n = itoa n := by
 induction n using Nat.strongRecOn with
 | ind n ih =>
  rw [Lib.decDigits, itoa]
  split
  ·rfl
  ·rw [ih (n / 10) (by omega)]
theorem grown_grow (w : World) (os : Array Obj) : w.grownBy (Go.Sort.grow w os) none := by
 refine ⟨rfl, rfl, rfl, by simp [Go.Sort.grow], fun k hk _ => ?_⟩
 simp [Go.Sort.grow, Array.getElem?_append, hk]
theorem bs_itoa (n : Nat) (w : World) (hn : n ≤ 9223372036854775807) (ht : Pow10 w) : Calls Tryz.prog 40 #[.int .i64 n] w fun e w' => e = .returned (.string (strOf (itoa n))) ∧ w.grownBy w' none := by
 refine (Tryz.strconv_Itoa n (by omega) (by omega) w ht).mono ?_
 rintro e w' ⟨rfl, k, os, rfl⟩
 refine ⟨?_, ?_⟩
 ·rw [Lib.itoa_nonneg, decDigits_itoa]; rfl
 ·refine (grown_drewN w k none).trans ?_
  exact grown_grow _ _
theorem info_field : (Tryz.prog.info? 38).map (fun i => (i.zero, i.size, i.bytes)) = some (some (.agg #[.string ⟨#[]⟩, .int .i64 0, .int .i64 0, .string ⟨#[]⟩, .slice none 0 0, .slice none 0 0, .slice none 0 0]), 7, 120) := by kernel_rfl

theorem flat_length {α : Type} (k : Nat) (f : Nat → List α) : ∀ n, (∀ i, i < n → (f i).length = k) → ((List.range n).flatMap f).length = n * k
 | 0, _ => by simp
 | n + 1, h => by
  rw [List.range_succ, List.flatMap_append, List.length_append, flat_length k f n (fun i hi => h i (by omega))]
  simp [h n (by omega), Nat.succ_mul]
theorem flat_get {α : Type} (k : Nat) (f : Nat → List α) : ∀ n, (∀ i, i < n → (f i).length = k) → ∀ i t, i < n → t < k → ((List.range n).flatMap f)[i * k + t]? = (f i)[t]?
 | 0, _, i, t, hi, _ => by omega
 | n + 1, h, i, t, hi, ht => by
  have hl := flat_length k f n (fun i hi => h i (by omega))
  rw [List.range_succ, List.flatMap_append]
  by_cases hin : i < n
  ·have : i * k + t < n * k := by
    have : (i + 1) * k ≤ n * k := Nat.mul_le_mul_right _ hin
    rw [Nat.succ_mul] at this; omega
   rw [List.getElem?_append_left (by omega)]
   exact flat_get k f n (fun i hi => h i (by omega)) i t hin ht
  ·obtain rfl : i = n := by omega
   rw [List.getElem?_append_right (by omega), hl, Nat.add_sub_cancel_left]
   simp
theorem flat_succ {α : Type} (f : Nat → List α) (n : Nat) : (List.range (n + 1)).flatMap f = (List.range n).flatMap f ++ f n := by
 rw [List.range_succ, List.flatMap_append]; simp
theorem named_length : ∀ (i : Nat) (l : List Val), (named i l).length = l.length
 | _, [] => rfl
 | i, v :: r => by simp [named, named_length (i + 1) r]
theorem named_get : ∀ (i : Nat) (l : List Val) (j : Nat) (h : j < l.length), (named i l)[j]'(by rw [named_length]; exact h) = (itoa (i + j), l[j])
 | i, v :: r, 0, h => rfl
 | i, v :: r, j + 1, h => by
  simp only [named, List.getElem_cons_succ]
  rw [named_get (i + 1) r j (by simpa using h)]
  rw [Nat.add_assoc, Nat.add_comm 1 j]
theorem ownsRow_grown {w w' : World} {base : Nat} {e : TypeId} {size n : Nat} {v : Value} {xs : List Value} (h : w.ownsRow base e size v n xs) (hg : w.grownBy w' none) : w'.ownsRow base e size v n xs :=
 World.ownsRow.kept h hg (by cases v.ownBlock <;> simp)
theorem VIs.len {P : Nat → Prop} {w : World} {x : Val} {cs : List Value} (h : VIs P w x cs) : cs.length = 6 := by
 obtain ⟨_, _, _, _, _, rfl, _⟩ := h.cells
 rfl
theorem VIs.one {P : Nat → Prop} {w : World} {x : Val} {cs : List Value} (h : VIs P w x cs) : ∀ u ∈ cs, u.oneCell' = true := by
 obtain ⟨s, ba, bn, bc, fa, fn, fc, la, ln, lc, rfl, _⟩ := h.six
 intro u hu
 simp only [List.mem_cons, List.not_mem_nil, or_false] at hu
 rcases hu with rfl | rfl | rfl | rfl | rfl | rfl <;> rfl

/-- A field's seven cells, i-th of a list. -/
def itemCells (C : Nat → List Value) (i : Nat) : List Value := .string (strOf (itoa i)) :: C i
theorem itoa_len (n : Nat) (h : n < 1000000) : (itoa n).length ≤ 140737488351232 := by
 have := itoa_length 5 n (by omega)
 omega

set_option maxRecDepth 100000 in
set_option maxHeartbeats 4000000 in
theorem bs_named {P : Nat → Prop} (l : List Val) (la : Option Addr) (lc : Nat) (w : World) (hl : l.length ≤ 200000) (h : LIs P w l la 0) (ht : Pow10 w) :
  Calls Tryz.prog 101 #[.slice la l.length lc] w fun e w' => ∃ ad c, e = .returned (.slice ad l.length c) ∧ FIs (fun k => P k ∨ w.heap.size ≤ k) w' (named 0 l) ad 0 ∧ w.grownBy w' none ∧ l.length ≤ c := by
 have hex : ∀ i, ∃ cs, ∀ (hi : i < l.length), ∃ b o, la = some ⟨b, o, none⟩ ∧ P b ∧ w.rangeAt b (o + i * 6) cs ∧ VIs P w l[i] cs := fun i => by
  by_cases hi : i < l.length
  ·obtain ⟨b, o, cs, h1, h2, h3, h4⟩ := h.get hi
   rw [Nat.zero_add] at h3
   exact ⟨cs, fun _ => ⟨b, o, h1, h2, h3, h4⟩⟩
  ·exact ⟨[], fun e => absurd e hi⟩
 obtain ⟨C, hC⟩ := Classical.axiomOfChoice hex
 have hCl : ∀ i, i < l.length → (itemCells C i).length = 7 := fun i hi => by
  obtain ⟨_, _, _, _, _, hv⟩ := hC i hi
  simp [itemCells, hv.len]
 have htH := Lib.hid ht
 have hCH := Lib.hid hC
 clear h ht hex hC
 go_enter Tryz.func101, Tryz.ntmps101
 go_wp2_with fail
 go_loopw [3, 8] (fun v i wr => ∃ (j : Nat) (va : Option Addr) (vc : Nat), i = .int .i64 j ∧ j ≤ l.length ∧ v = .slice va j vc ∧ wr.ownsRow 0 38 7 (.slice va j vc) j ((List.range j).flatMap (itemCells C)) ∧ (∀ k, (Value.slice va j vc).ownBlock = some k → w.heap.size ≤ k) ∧ w.grownBy wr none) (fun _ i _ => l.length - (intOf i).toNat)
 case atStart => exact ⟨0, none, 0, rfl, Nat.zero_le _, rfl, World.ownsRow_nil _ _ _ _, (fun _ h => by cases h), grown_refl _ _⟩
 case round =>
  obtain ⟨j, va, vc, rfl, hj, rfl, hown, hnew, hgr⟩ := hrel
  have hgrH := Lib.hid hgr
  have hownH := Lib.hid hown
  have hnewH := Lib.hid hnew
  clear hgr hown hnew
  by_cases hjl : j < l.length
  ·have hjl1 : (j : Int) < (l.length : Int) := by omega
   have hj0 : (0 : Int) ≤ (j : Int) := by omega
   obtain ⟨b, o, hae, hPb, hrng, hv⟩ := hCH.out j hjl
   subst hae
   obtain ⟨s0, ba, bn, bc, fa, fn, fc, la2, ln, lc2, hcs, -⟩ := hv.six
   have h1c := hv.one
   have hrng2 : wr.rangeAt b (o + j * 6) (C j) := rangeAt_keep hrng (hgrH.out.block b (rangeAt_lt hrng (by rw [hcs]; simp)) (by simp))
   obtain ⟨k0, hk0⟩ : ∃ k, k = l[j].kind := ⟨_, rfl⟩
   obtain ⟨n0, hn0⟩ : ∃ k, k = l[j].num := ⟨_, rfl⟩
   rw [← hk0, ← hn0] at hcs
   rw [hcs] at hrng2
   have q0 := hrng2 0 _ rfl
   have q1 := hrng2 1 _ rfl
   have q2 := hrng2 2 _ rfl
   have q3 := hrng2 3 _ rfl
   have q4 := hrng2 4 _ rfl
   have q5 := hrng2 5 _ rfl
   rw [Nat.add_zero] at q0
   have hcsH := Lib.hid hcs
   clear hrng hrng2 hv hcs hk0 hn0
   go_wp2_with fail
   clear q0 q1 q2 q3 q4 q5
   refine wp_region_held_drew (S := fun w' => w'.heap[wr.heap.size]? = some (.cells #[.int .i64 k0, .int .i64 n0, .string s0, .slice ba bn bc, .slice fa fn fc, .slice la2 ln lc2] 35 (0, 0))) (by kernel_rfl) (heap_alloc_new wr _) (fun hHeld => ?_)
   refine tkH 0 ?_ rfl (by kernel_rfl) (fun _ _ _ h => h) ?_ hHeld ?_
   rotate_left
   ·intro w' hSw; (try dsimp only at hSw); go_simp
    all_goals (with_reducible rfl)
   simp only [zP, zO, zA, zB, zC, zD, zE, zF]
   refine tkH 1 ?_ rfl (by kernel_rfl) (fun _ _ _ h => h) ?_ hHeld ?_
   rotate_left
   ·intro w' hSw; (try dsimp only at hSw); go_simp
    all_goals (with_reducible rfl)
   simp only [zP, zO, zA, zB, zC, zD, zE, zF]
   refine tkH 3 ?_ rfl (by kernel_rfl) (fun _ _ _ h => h) ?_ hHeld ?_
   rotate_left
   ·intro w' hSw; (try dsimp only at hSw); have q0 := cell_blk hSw (i := 0) rfl; have q1 := cell_blk hSw (i := 1) rfl; have q2 := cell_blk hSw (i := 2) rfl; have q3 := cell_blk hSw (i := 3) rfl; have q4 := cell_blk hSw (i := 4) rfl; have q5 := cell_blk hSw (i := 5) rfl; clear hSw; go_simp; rfl
   simp only [zP, zO, zA, zB, zC, zD, zE, zF]
   refine wpAnyH_ready (rs := [2]) (by kernel_rfl) (by simp) ?_
   refine AllReadyH.cons (o := _) rfl (fun K hK => ?_) AllReadyH.nil
   go_simp
   obtain ⟨W1, hW1⟩ : ∃ W1, W1 = (wr.alloc (.cells #[.int .i64 k0, .int .i64 n0, .string s0, .slice ba bn bc, .slice fa fn fc, .slice la2 ln lc2] 35)).drew := ⟨_, rfl⟩
   have hg1 : wr.grownBy W1 none := by rw [hW1]; exact (World.grownBy_alloc wr _ none).trans (grown_drew _ none)
   have hb1 : W1.heap[wr.heap.size]? = some (.cells #[.int .i64 k0, .int .i64 n0, .string s0, .slice ba bn bc, .slice fa fn fc, .slice la2 ln lc2] 35 (0, 0)) := by rw [hW1]; exact heap_alloc_new wr _
   rw [← hW1]
   refine (bs_itoa j W1 (by omega) (htH.out.keep (hgrH.out.trans hg1))).mono ?_
   rintro e W2 ⟨rfl, hg2⟩
   have hb2 := (hg2.block _ (lt_of_block hb1) (by simp)).trans hb1
   have hg02 : wr.grownBy W2 none := hg1.trans hg2
   clear hW1 hg1 hb1 hg2
   go_wp2_with fail
   refine hK.out _ _ ?_ (fun hHeld => ?_)
   ·exact hb2
   clear hK K
   refine tkH 4 ?_ rfl (by kernel_rfl) (fun _ _ _ h => h) ?_ hHeld ?_
   rotate_left
   ·intro w' hSw; (try dsimp only at hSw); go_simp
    all_goals (with_reducible rfl)
   simp only [zP, zO, zA, zB, zC, zD, zE, zF]
   refine wpAnyH_ready (rs := [5]) (by kernel_rfl) (by simp) ?_
   refine AllReadyH.cons (o := _) rfl (fun K hK => ?_) AllReadyH.nil
   go_simp
   have hlt : wr.heap.size < W2.heap.size := lt_of_block hb2
   have hb3 : (W2.alloc (.cells #[.string (strOf (itoa j)), .int .i64 k0, .int .i64 n0, .string s0, .slice ba bn bc, .slice fa fn fc, .slice la2 ln lc2] 38)).heap[wr.heap.size]? = some (.cells #[.int .i64 k0, .int .i64 n0, .string s0, .slice ba bn bc, .slice fa fn fc, .slice la2 ln lc2] 35 (0, 0)) := alloc_old hb2
   refine hK.out _ _ ?_ (fun hHeld => ?_)
   ·exact hb3
   clear hK K
   obtain ⟨i0, hi, hz0, hz1, hz2⟩ := info_split info_field
   have hsrc : Src (W2.alloc (.cells #[.string (strOf (itoa j)), .int .i64 k0, .int .i64 n0, .string s0, .slice ba bn bc, .slice fa fn fc, .slice la2 ln lc2] 38)) 7 (.slice (some ⟨W2.heap.size, 0, none⟩) 1 1) 1 (itemCells C j) := by
    refine ⟨by rw [hCl j hjl], .inr ⟨_, 1, rfl, fun t u ht => ?_⟩⟩
    unfold itemCells at ht
    rw [hcsH.out] at ht
    rw [addr_add, Nat.zero_add]
    exact cell_blk (heap_alloc_new W2 _) (by rw [← ht]; simp)
   have hown3 : (W2.alloc (.cells #[.string (strOf (itoa j)), .int .i64 k0, .int .i64 n0, .string s0, .slice ba bn bc, .slice fa fn fc, .slice la2 ln lc2] 38)).ownsRow 0 38 7 (.slice va j vc) j ((List.range j).flatMap (itemCells C)) := (ownsRow_grown hownH.out hg02).alloc _
   refine wpAnyH_ready (rs := [6]) (by kernel_rfl) (by simp) ?_
   refine AllReadyH.cons (o := _) rfl (fun K hK => ?_) AllReadyH.nil
   refine wp_app (.tmp 13) (.tmp 18) 33 (by rfl) 38 i0 _ 7 120 Tryz.underlying33 hi hz0 hz1 hz2 rfl (by decide) (.slice va j vc) j ((List.range j).flatMap (itemCells C)) (by rfl) hown3 (.slice (some ⟨W2.heap.size, 0, none⟩) 1 1) 1 (itemCells C j) (by rfl) hsrc (by intro u hu; rcases List.mem_cons.1 hu with rfl | hu; rfl; exact h1c u hu) (by omega) (by omega) ?_
   intro ad' c' w4 hown4 hgrow4 hnil4 hat4
   have hb4 : w4.heap[wr.heap.size]? = some (.cells #[.int .i64 k0, .int .i64 n0, .string s0, .slice ba bn bc, .slice fa fn fc, .slice la2 ln lc2] 35 (0, 0)) := (hgrow4.block wr.heap.size (lt_of_block hb3) (fun e => by
    have := World.ownsRow.lt hownH.out _ e.symm
    omega)).trans hb3
   refine hK.out _ _ ?_ (fun hHeld => ?_)
   ·exact hb4
   clear hK K
   refine tkH 7 ?_ rfl (by kernel_rfl) (fun _ _ _ h => h) ?_ hHeld ?_
   rotate_left
   ·intro w' hSw; (try dsimp only at hSw); go_simp
    all_goals (with_reducible rfl)
   simp only [zP, zO, zA, zB, zC, zD, zE, zF]
   refine wpAnyH_done (by kernel_rfl) ?_ _
   rw [← flat_succ] at hown4
   have hg4 : w.grownBy w4 none := grown_fresh ((hgrH.out.trans hg02).trans (World.grownBy_alloc W2 _ none)) hgrow4 hnewH.out
   have hnew4 : ∀ k, (Value.slice ad' (j + 1) c').ownBlock = some k → w.heap.size ≤ k := fun k hk => by
    rcases hat4 with h | h
    ·exact hnewH.out k (by rw [← h]; exact hk)
    ·rw [h] at hk; cases hk
     have h5 := hgrH.out.size
     have h6 := hg02.size
     simp; omega
   have hown4H := Lib.hid hown4
   have hg4H := Lib.hid hg4
   have hnew4H := Lib.hid hnew4
   have hwrap : IntKind.i64.wrap ((j : Int) + 1) = (j : Int) + 1 := IntWalk.i64_in _ (by omega)
   clear hown4 hg4 hnew4 hnil4 hat4 hgrow4 hb4 hown3 hsrc hb3 hb2 hi hz0 hz1 hz2
   go_wp2_with fail
   exact ⟨⟨j + 1, ad', c', by simp, hjl, rfl, hown4H.out, hnew4H.out, hg4H.out⟩, by simp only [intOf]; omega⟩
  ·have hjl1 : ¬ (j : Int) < (l.length : Int) := by omega
   obtain ⟨M, hM⟩ : ∃ M, M = l.length := ⟨_, rfl⟩
   have hje : j = M := by omega
   have hjeH := Lib.hid hje
   clear hje
   go_wp2_with fail
   go_ret
   have hjl2 : j = l.length := by rw [hjeH.out, hM]
   have hcap : j ≤ vc := by
    rcases hownH.out.2 with ⟨e, h0⟩ | ⟨g, cap, cur, e, hb, hgg, rest⟩
    ·omega
    ·injection e with e1 e2 e3
     rw [e3]; exact rest.1
   refine ⟨va, vc, by rw [← hjl2]; rfl, ?_, hgrH.out, by rw [← hjl2]; exact hcap⟩
   refine FIs.of fun {i} hi => ?_
   have hi2 : i < l.length := by rw [named_length] at hi; exact hi
   rcases hownH.out.2 with ⟨e, h0⟩ | ⟨g, cap, cur, e, hb, hgg, rest⟩
   ·omega
   ·injection e with e1 e2 e3
    subst e1 e3
    obtain ⟨b, o, hae, hPb, hrng, hv⟩ := hCH.out i hi2
    refine ⟨g, 0, C i, rfl, .inr (hnewH.out g rfl), ?_, ?_, ?_⟩
    ·rw [named_get 0 l i hi2]; simp only [Nat.zero_add]; exact itoa_len i (by omega)
    ·rw [named_get 0 l i hi2]
     intro t u ht
     have h7 : t < 7 := by
      rcases Nat.lt_or_ge t 7 with h | h
      ·exact h
      ·rw [List.getElem?_eq_none (by have := hCl i hi2; simp [itemCells] at this ⊢; omega)] at ht; cases ht
     have h8 := World.ownsRow.cells hownH.out (g := g) rfl (i * 7 + t) u (by
      rw [flat_get 7 (itemCells C) j (fun i hi => hCl i (by omega)) i t (by omega) h7]
      simpa [itemCells] using ht)
     rw [addr_add] at h8
     simpa [Nat.add_assoc] using h8
    ·rw [named_get 0 l i hi2]
     exact hv.keep (fun _ h => .inl h) (fun k _ hk => hgrH.out.block k hk (by simp)) 
end Go.Proofs.YtembpajlllnncaaGreatDoor
