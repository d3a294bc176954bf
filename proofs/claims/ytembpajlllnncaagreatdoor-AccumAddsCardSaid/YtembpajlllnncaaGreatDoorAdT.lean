/- AccumAdds: the reference: a list takes a value. -/
import Derived.Test.YtembpajlllnncaaGreatDoorAdR
import Derived.Test.YtembpajlllnncaaGreatDoorAdO
import Derived.Test.YtembpajlllnncaaGreatDoorAcOp
import Derived.Test.YtembpajlllnncaaGreatDoorAcC6
set_option linter.unusedVariables false
set_option linter.unusedSimpArgs false
namespace Go.Proofs.YtembpajlllnncaaGreatDoor
open Go.RowKit

theorem Src.step {w w' : World} {k m : Nat} {v : Value} {news : List Value} (h : Src w k v m news) (hs : Step [] id id w w') : Src w' k v m news := by
 refine ⟨h.1, ?_⟩
 rcases h.2 with h | ⟨ad, c, e, h⟩
 ·exact .inl h
 ·exact .inr ⟨ad, c, e, fun t u ht => hs.cell (h t u ht)⟩
theorem LRow.snoc {P : Nat → Prop} {w : World} {l : List Val} {xs cs : List Value} {x : Val} (h : LRow (fun _ => P) w l xs) (hx : VIs P w x cs) : LRow (fun _ => P) w (l ++ [x]) (xs ++ cs) := by
 have hc : cs.length = 6 := hx.len
 refine ⟨by rw [List.length_append, h.1, hc]; simp; omega, fun i hi => ?_⟩
 rw [List.length_append, List.length_singleton] at hi
 by_cases hij : i < l.length
 ·have h3 := h.2 i hij
  rw [List.getElem_append_left hij, piece_ext (ys := xs) fun t ht => List.getElem?_append_left (by rw [h.1]; omega)]
  exact h3
 ·obtain rfl : i = l.length := by omega
  have e : piece 6 (xs ++ cs) l.length = cs := piece_is hc (fun t ht => by
   rw [List.getElem?_append_right (by rw [h.1]; omega), h.1]; congr 1; omega)
  rw [e]
  simpa using hx
/-- A list with one more came, or it would be too long. -/
def RPush (P : Nat → Prop) (M : Nat) (K N : Int) (v : Val) (v0 v1 v2 v3 v4 v5 : Value) (w : World) (e : Ending) (w' : World) : Prop :=
 if ownV v < 0 then RAdd M K N 3 v0 v1 v2 v3 v4 v5 w e w' else ∃ u0 u1 u2 u3 u4 u5, RAdd M K (N + 1) 0 u0 u1 u2 u3 u4 u5 w e w' ∧ VIs (fun k => P k ∨ (w.heap.size ≤ k ∧ k ≠ M)) w' v [u0, u1, u2, u3, u4, u5]
/-- The new row, and a block of a value beside it. -/
structure RowA (W1 W : World) (v : Value) (m : Nat) (xs : List Value) : Prop where
 row : W.ownsRow 0 35 6 v m xs
 new : ∀ k, v.ownBlock = some k → W1.heap.size ≤ k
theorem RowA.on {W1 W W' : World} {v : Value} {m : Nat} {xs : List Value} (h : RowA W1 W v m xs) (hs : Step [] id id W W') : RowA W1 W' v m xs := ⟨ownsRow_step h.row hs (fun k _ => by simp), h.new⟩
theorem RowA.far {W1 W : World} {v : Value} {m Z : Nat} {xs : List Value} (h : RowA W1 W v m xs) (hZ : W.heap.size ≤ Z) : v.ownBlock ≠ some Z := fun e => by have := (World.ownsRow.lt h.row Z e).2; omega
theorem RowA.next {W1 W W' : World} {v : Value} {m : Nat} {xs : List Value} (hr : W'.ownsRow 0 35 6 v m xs) (hs : Step [] id id W1 W) (ha : v.ownBlock = none ∨ v.ownBlock = some W.heap.size) : RowA W1 W' v m xs := ⟨hr, fun k hk => by
 rcases ha with h | h
 ·rw [h] at hk; cases hk
 ·rw [h] at hk; cases hk; exact hs.size⟩
theorem grown_none {w w' : World} (h : w.grownBy w' none) : Step [] id id w w' := .grown h (fun k hk => by cases hk)
/-- The first append: a row of its own. -/
theorem wp_app_nil {o : Oper} {a : Act} {K : Act → World → Prop} {Q : Exit → Act → World → Prop} {wr w : World} {m : Nat} {xs : List Value} {la : Option Addr} {lc : Nat} (x : Operand) (ho : o.op = .call { callee := .builtin .append, args := #[.const (.slice none 0 0), x], argTypes := #[22, 22] })
  (hx : a.eval x = .slice la m lc) (hs : Step [] id id wr w) (hsrc : Src w 6 (.slice la m lc) m xs) (h1 : ∀ u ∈ xs, u.oneCell' = true) (hm : m ≤ 1000)
  (h : ∀ ad c w', Step [] id id w w' → RowA wr w' (.slice ad m c) m xs → ((Value.slice ad m c).ownBlock = none ∨ (Value.slice ad m c).ownBlock = some w.heap.size) → K (a.put o.dst (.slice ad m c)) w') : o.wp Tryz.prog a w K Q := by
 obtain ⟨i0, hi, hz0, hz1, hz2⟩ := info_split info_value
 refine wp_app (.const (.slice none 0 0)) x 22 ho 35 i0 _ 6 104 Tryz.underlying22 hi hz0 hz1 hz2 rfl (by decide) (.slice none 0 0) 0 [] rfl (World.ownsRow_nil _ _ _ _) (.slice la m lc) m xs hx hsrc h1 (by omega) (by omega) ?_
 intro ad c w' hrow hg _ hat
 rw [Nat.zero_add] at hrow hat ⊢
 exact h ad c w' (grown_none hg) (RowA.next hrow hs hat) hat
/-- The second: one value more. -/
theorem wp_app_one {o : Oper} {a : Act} {K : Act → World → Prop} {Q : Exit → Act → World → Prop} {wr w : World} {m B : Nat} {xs cs : List Value} {ad : Option Addr} {c : Nat} (s x : Operand) (ho : o.op = .call { callee := .builtin .append, args := #[s, x], argTypes := #[22, 22] })
  (he : a.eval s = .slice ad m c) (hx : a.eval x = .slice (some ⟨B, 0, none⟩) 1 1) (hs : Step [] id id wr w) (hA : RowA wr w (.slice ad m c) m xs) (hB : w.heap[B]? = some (.cells cs.toArray 35 (0, 0))) (hc : cs.length = 6) (h1 : ∀ u ∈ cs, u.oneCell' = true) (hm : m ≤ 1000)
  (h : ∀ ad' c' w', Step (Value.slice ad m c).ownBlock.toList id id w w' → Step [] id id wr w' → RowA wr w' (.slice ad' (m + 1) c') (m + 1) (xs ++ cs) → ((Value.slice ad' (m + 1) c').ownBlock = (Value.slice ad m c).ownBlock ∨ (Value.slice ad' (m + 1) c').ownBlock = some w.heap.size) → K (a.put o.dst (.slice ad' (m + 1) c')) w') : o.wp Tryz.prog a w K Q := by
 obtain ⟨i0, hi, hz0, hz1, hz2⟩ := info_split info_value
 have hsrc : Src w 6 (.slice (some ⟨B, 0, none⟩) 1 1) 1 cs := ⟨by rw [hc], .inr ⟨_, 1, rfl, fun t u ht => by rw [addr_add, Nat.zero_add]; exact cell_blk hB (by rw [← ht]; simp)⟩⟩
 refine wp_app s x 22 ho 35 i0 _ 6 104 Tryz.underlying22 hi hz0 hz1 hz2 rfl (by decide) (.slice ad m c) m xs he hA.row (.slice (some ⟨B, 0, none⟩) 1 1) 1 cs hx hsrc h1 (by omega) (by omega) ?_
 intro ad' c' w' hrow hg _ hat
 have hsC : Step (Value.slice ad m c).ownBlock.toList id id w w' := .grown hg (fun k hk => by simp [hk])
 exact h ad' c' w' hsC (hs.tailNew hsC (fun r hr => .inr (hA.new r (by simpa using hr)))) ⟨hrow, fun k hk => by
  rcases hat with h | h
  ·exact hA.new k (by rw [← h]; exact hk)
  ·rw [h] at hk; cases hk; exact hs.size⟩ hat
/-- The list is laid into its variable. -/
theorem laid_z {wr w : World} {Z m : Nat} {ys : List Value} {ad : Option Addr} {c : Nat} {d0 d1 d2 d3 d4 d5 : Value} (hD : w.heap[Z]? = some (.cells #[d0, d1, d2, d3, d4, d5] 35 (0, 0))) (hn : wr.heap.size ≤ Z) (hs : Step [] id id wr w) (hR : RowA wr w (.slice ad m c) m ys) (hf : (Value.slice ad m c).ownBlock ≠ some Z) (v0 v1 v2 v3 v4 v5 : Value) :
  ∃ W, W = set6 w Z v0 v1 v2 v3 v4 v5 ∧ W.heap[Z]? = some (.cells #[v0, v1, v2, v3, v4, v5] 35 (0, 0)) ∧ Step [] id id wr W ∧ RowA wr W (.slice ad m c) m ys := by
 have hg : w.grownBy (set6 w Z v0 v1 v2 v3 v4 v5) (some Z) := set6_grown
 have hsF : Step [Z] id id w (set6 w Z v0 v1 v2 v3 v4 v5) := .grown hg (fun k hk => by cases hk; simp)
 exact ⟨_, rfl, set6_heap hD, hs.tailNew hsF (fun r hr => .inr (by rw [List.mem_singleton] at hr; rw [hr]; exact hn)), ownsRow_step hR.row hsF (fun k hk hm => by rw [List.mem_singleton] at hm; exact hf (by rw [hk, hm])), hR.new⟩
/-- What holds behind the list's making. -/
def MoreQ (a0 : Act) (wr : World) (m : Nat) (ys : List Value) : Exit → Act → World → Prop
 | .normal, a', w' => ∃ (Z : Nat) (ad : Option Addr) (c : Nat) (u1 u2 u3 u4 u5 u6 u7 u8 u9 u10 : Value),
  a' = (((((((((((a0.put (some 141) u1).put (some 142) u2).put (some 143) u3).put (some 144) u4).put (some 145) u5).put (some 146) u6).put (some 147) u7).put (some 148) u8).put (some 149) u9).put (some 150) u10).put (some 9) (.pointer (some ⟨Z, 0, none⟩))) ∧
  w'.heap[Z]? = some (.cells #[.int .i64 7, .int .i64 0, (.string ⟨#[]⟩), (.slice none 0 0), (.slice none 0 0), .slice ad (m + 1) c] 35 (0, 0)) ∧ RowA wr w' (.slice ad (m + 1) c) (m + 1) ys ∧ Step [] id id wr w'
 | _, _, _ => False
theorem wp_more {P : Program} {code : Code} {a : Act} {w : World} {Q' : Exit → Act → World → Prop} (m : Nat) (ys : List Value) (h : code.wp P (MoreQ a w m ys) a w) (hq : ∀ ex a' w', MoreQ a w m ys ex a' w' → Q' ex a' w') : code.wp P Q' a w := Code.wp_mono hq h
theorem set_far {w : World} {M k : Nat} {u0 u1 u2 u3 u4 u5 u6 : Value} (h : k ≠ M) : (((((((w.setCell ⟨M, 2, none⟩ u0).setCell ⟨M, 3, none⟩ u1).setCell ⟨M, 4, none⟩ u2).setCell ⟨M, 5, none⟩ u3).setCell ⟨M, 6, none⟩ u4).setCell ⟨M, 7, none⟩ u5).setCell ⟨M, 1, none⟩ u6).heap[k]? = w.heap[k]? := by
 have hs : ∀ (w : World) (i : Nat) (v : Value), (w.setCell ⟨M, i, none⟩ v).heap[k]? = w.heap[k]? := fun w i v => Below.heap_setCell _ _ _ _ h
 rw [hs, hs, hs, hs, hs, hs, hs]
/-- The longer list, in memory. -/
theorem more_vis {P : Nat → Prop} {w W : World} {M m : Nat} {l : List Val} {xs cs : List Value} {x : Val} {ad : Option Addr} {c : Nat} (hL : LRow (fun _ => P) w l xs) (hx : VIs P w x cs) (hm : m = l.length) (hs : Step [] id id w W) (hr : W.ownsRow 0 35 6 (.slice ad (m + 1) c) (m + 1) (xs ++ cs))
  (hn : ∀ k, (Value.slice ad (m + 1) c).ownBlock = some k → w.heap.size ≤ k) (hM : M < w.heap.size) (hm2 : m ≤ 1000) : VIs (fun k => P k ∨ (w.heap.size ≤ k ∧ k ≠ M)) W (listV (l ++ [x])) [.int .i64 7, .int .i64 0, (.string ⟨#[]⟩), (.slice none 0 0), (.slice none 0 0), .slice ad (m + 1) c] := by
 have hl : (l ++ [x]).length = m + 1 := by rw [List.length_append, List.length_singleton, hm]
 have hLs := hL.snoc hx
 have hLW : LRow (fun _ => P) W (l ++ [x]) (xs ++ cs) := hLs.keep (fun _ _ h => h) (fun _ k _ hk => (hs.keep k hk (by simp)).2)
 rw [← hl] at hr hn
 obtain ⟨g1, g2, g3⟩ := hLW.is (Q := fun k => P k ∨ (w.heap.size ≤ k ∧ k ≠ M)) hr (fun _ _ h => .inl h) (fun k hk => .inr ⟨hn k hk, by have := hn k hk; omega⟩)
 rw [← hl]
 exact VIs.mk ⟨(.slice none 0 0), none, 0, ad, c, rfl, .inl ⟨none, 0, rfl, rfl, fun _ => rfl⟩, ⟨by simp [listV, Val.f], g2, fun _ => rfl, g3⟩, by simp [listV, Val.kind, Val.num], ⟨by simp [listV, Val.s], by simp [listV, Val.b], by simp [listV, Val.f], by simp only [listV, Val.l]; omega⟩, by simp [listV, Val.f, FIs], g1⟩
section
variable {P : Nat → Prop} {w : World} {M m : Nat} {N k n k0 n0 : Int} {s s0 : ByteArray} {ba fa la ba0 fa0 la0 : Option Addr} {bn bc fn fc ln lc bn0 bc0 fn0 fc0 lc0 : Nat} {l : List Val} {x : Val}
set_option maxRecDepth 100000 in
set_option maxHeartbeats 16000000 in
theorem radd_push (h : StR w M 6 N (.int .i64 k0) (.int .i64 n0) (.string s0) (.slice ba0 bn0 bc0) (.slice fa0 fn0 fc0) (.slice la0 m lc0)) (hN : 0 ≤ N ∧ N ≤ 1000000000) (hv : VIs P w (listV l) [.int .i64 k0, .int .i64 n0, .string s0, .slice ba0 bn0 bc0, .slice fa0 fn0 fc0, .slice la0 m lc0]) (hx : VIs P w x [.int .i64 k, .int .i64 n, .string s, .slice ba bn bc, .slice fa fn fc, .slice la ln lc]) (hPM : ∀ k, P k → k ≠ M) (hk : k ≠ 0) (hq : OwnQC (listV (l ++ [x])) 1) (hm : m ≤ 1000) :
  Calls Tryz.prog 13 #[.pointer (some ⟨M, 0, none⟩), .agg #[.int .i64 k, .int .i64 n, .string s, .slice ba bn bc, .slice fa fn fc, .slice la ln lc]] w (RPush P M 6 N (listV (l ++ [x])) (.int .i64 k0) (.int .i64 n0) (.string s0) (.slice ba0 bn0 bc0) (.slice fa0 fn0 fc0) (.slice la0 m lc0) w) := by
 obtain ⟨W1, hW1⟩ : ∃ W1, W1 = w.alloc (.cells #[.int .i64 k, .int .i64 n, .string s, .slice ba bn bc, .slice fa fn fc, .slice la ln lc] 35) := ⟨_, rfl⟩
 have hs1 : Step [] id id w W1 := by rw [hW1]; exact Step.alloc _
 have hB : W1.heap[w.heap.size]? = some (.cells #[.int .i64 k, .int .i64 n, .string s, .slice ba bn bc, .slice fa fn fc, .slice la ln lc] 35 (0, 0)) := by rw [hW1]; exact heap_alloc_new w _
 have hM : StR W1 M 6 N (.int .i64 k0) (.int .i64 n0) (.string s0) (.slice ba0 bn0 bc0) (.slice fa0 fn0 fc0) (.slice la0 m lc0) := hs1.at h (by simp)
 have hMw := lt_of_block h
 have hMB : ¬ M = w.heap.size := by omega
 have hBM : ¬ w.heap.size = M := by omega
 obtain ⟨bv', fa', fc', la', lc', hvc, -, ⟨-, hvl, -, hvn⟩, -, ⟨-, -, -, hvs⟩, -, hvL⟩ := hv.cells
 have hsl : Value.slice la0 m lc0 = Value.slice la' (listV l).l.length lc' := by
  injection hvc with _ h
  injection h with _ h
  injection h with _ h
  injection h with _ h
  injection h with _ h
  injection h with h _
 injection hsl with e1 e2 e3
 subst e1 e3
 have hml : m = l.length := e2
 have hvL : LIs P w l la0 0 := hvL
 have hvl : l.length ≤ lc0 := hvl
 obtain ⟨xs, hsrc, hLR, hon⟩ := LIs.src hvL hvl hvn
 have hsrc : Src w 6 (.slice la0 m lc0) m xs := by rw [hml]; exact hsrc
 have hsrcH := Lib.hid hsrc
 have hones := Lib.hid hon
 have honesX := Lib.hid hx.ones
 have hmore := Lib.hid (fun (W : World) (ad : Option Addr) (c : Nat) (hs : Step [] id id w W) (hr : W.ownsRow 0 35 6 (.slice ad (m + 1) c) (m + 1) (xs ++ [.int .i64 k, .int .i64 n, .string s, .slice ba bn bc, .slice fa fn fc, .slice la ln lc])) (hn : ∀ k, (Value.slice ad (m + 1) c).ownBlock = some k → w.heap.size ≤ k) =>
  more_vis (M := M) hLR hx hml hs hr hn hMw (by omega))
 have hcm := Lib.hid (fun (j : Nat) (hj : j < l.length) => ref_compare l[j] x)
 have hqH := Lib.hid hq
 have hkb : (k == 0) = false := by rw [beq_eq_false_iff_ne]; exact hk
 have hPM := Lib.hid hPM
 have hwr : IntKind.i64.wrap (N + 1) = N + 1 := IntWalk.i64_in _ (by omega)
 have hMH := Lib.hid hM
 have hBH := Lib.hid hB
 have hW1H := Lib.hid hW1
 have hs1H := Lib.hid hs1
 have hvLH := Lib.hid hvL
 have hmlH := Lib.hid hml
 have hxH := Lib.hid hx
 have c0 := cell_blk h (i := 0) rfl
 have c7 := cell_blk h (i := 7) rfl
 clear hM hB hW1 hs1 h hsrc hon hLR hv hx hq hk hvL hml e2 hvl hvn hvs hvc
 have hsW := hs1H
 go_enter Tryz.func13, Tryz.ntmps13
 go_wp2_with fail
 rw [← hW1H.out]
 clear c0 c7
 go_loopw [8] (fun i wr => i = .int .i64 0 ∧ wr = W1) (fun _ _ => 0)
 case atStart => exact ⟨rfl, rfl⟩
 case round =>
  obtain ⟨rfl, rfl⟩ := hrel
  have hall := Lib.hid (fun (W : World) (hs : Step [] id id wr W) => And.intro (cell_blk (hs.at hMH.out (by simp)) (i := 7) rfl) (cells6A (hs.at hBH.out (by simp))))
  have c0 := cell_blk hMH.out (i := 0) rfl
  have c1 := cell_blk hMH.out (i := 1) rfl
  have c2 := cell_blk hMH.out (i := 2) rfl
  have c3 := cell_blk hMH.out (i := 3) rfl
  have c4 := cell_blk hMH.out (i := 4) rfl
  have c5 := cell_blk hMH.out (i := 5) rfl
  have c6 := cell_blk hMH.out (i := 6) rfl
  have c7 := cell_blk hMH.out (i := 7) rfl
  have hlM := lt_of_block hMH.out
  have hlB := lt_of_block hBH.out
  have fM := free_blk hMH.out
  obtain ⟨b0, b1, b2, b3, b4, b5⟩ := cells6A hBH.out
  by_cases hm0 : m = 0
  ·have hm1 : ¬ (0 : Int) < (m : Int) := by omega
   clear hm0
   go_wp2_with fail
   refine wp_more m (xs ++ [.int .i64 k, .int .i64 n, .string s, .slice ba bn bc, .slice fa fn fc, .slice la ln lc]) ?_ ?_
   ·refine wp_region_held_drew (S := fun w' => w'.cell? ⟨M, 7, none⟩ = some (.slice la0 m lc0) ∧ w'.cell? ⟨w.heap.size, 0, none⟩ = some (.int .i64 k) ∧ w'.cell? ⟨w.heap.size, 1, none⟩ = some (.int .i64 n) ∧ w'.cell? ⟨w.heap.size, 2, none⟩ = some (.string s) ∧ w'.cell? ⟨w.heap.size, 3, none⟩ = some (.slice ba bn bc) ∧ w'.cell? ⟨w.heap.size, 4, none⟩ = some (.slice fa fn fc) ∧ w'.cell? ⟨w.heap.size, 5, none⟩ = some (.slice la ln lc)) (by kernel_rfl) ⟨c7, b0, b1, b2, b3, b4, b5⟩ (fun hHeld => ?_)
    obtain ⟨WS, hWS⟩ : ∃ X, X = (wr).drew := ⟨_, rfl⟩
    have hs : Step [] id id wr WS := by rw [hWS]; exact Step.drew
    rw [← hWS]
    (try rw [← hWS] at hHeld)
    clear hWS c0 c1 c2 c3 c4 c5 c6 c7 b0 b1 b2 b3 b4 b5 fM hlM hlB
    refine tkH 0 ?_ rfl (by kernel_rfl) (fun _ _ _ h => h) ?_ hHeld ?_
    rotate_left
    ·intro w' hSw; (try dsimp only at hSw); go_simp
     all_goals (with_reducible rfl)
    simp only [zP, zO, zA, zB, zC, zD, zE, zF]
    refine tkH 1 ?_ rfl (by kernel_rfl) (fun _ _ _ h => h) ?_ hHeld ?_
    rotate_left
    ·intro w' hSw; (try dsimp only at hSw); go_simp
     all_goals (with_reducible rfl)
    simp only [zP, zO, zA, zB, zC, zD, zE, zF]
    refine tkH 2 ?_ rfl (by kernel_rfl) (fun _ _ _ h => h) ?_ hHeld ?_
    rotate_left
    ·intro w' hSw; (try dsimp only at hSw); go_simp
     all_goals (with_reducible rfl)
    simp only [zP, zO, zA, zB, zC, zD, zE, zF]
    refine tkH 3 ?_ rfl (by kernel_rfl) (fun _ _ _ h => h) ?_ hHeld ?_
    rotate_left
    ·intro w' hSw; (try dsimp only at hSw); go_simp
     all_goals (with_reducible rfl)
    simp only [zP, zO, zA, zB, zC, zD, zE, zF]
    refine tkH 4 ?_ rfl (by kernel_rfl) (fun _ _ _ h => h) ?_ hHeld ?_
    rotate_left
    ·intro w' hSw; (try dsimp only at hSw); go_simp
     all_goals (with_reducible rfl)
    simp only [zP, zO, zA, zB, zC, zD, zE, zF]
    refine tkH 6 ?_ rfl (by kernel_rfl) (fun _ _ _ h => h) ?_ hHeld ?_
    rotate_left
    ·intro w' hSw; (try dsimp only at hSw); go_simp
     all_goals (with_reducible rfl)
    simp only [zP, zO, zA, zB, zC, zD, zE, zF]
    refine wpAnyH_ready (rs := [5, 7, 10]) (by kernel_rfl) (by simp) ?_
    refine AllReadyH.cons (o := _) rfl (fun K hK => ?_) (AllReadyH.cons (o := _) rfl (fun K hK => ?_) (AllReadyH.cons (o := _) rfl (fun K hK => ?_) AllReadyH.nil))
    ·refine wp_app_nil (.tmp 145) (by rfl) (by rfl) hs (hsrcH.out.step (hsW.out.tail hs)) hones.out (by omega) ?_
     intro adA cA WA hsA hRA atA
     have hs := hs.tail hsA
     refine hK.out _ _ ?_ (fun hHeld => ?_)
     ·exact hall.out _ hs
     clear hK K
     refine wpAnyH_ready (rs := [7, 10]) (by kernel_rfl) (by simp) ?_
     refine AllReadyH.cons (o := _) rfl (fun K hK => ?_) (AllReadyH.cons (o := _) rfl (fun K hK => ?_) AllReadyH.nil)
     ·go_simp
      obtain ⟨WB, hWB⟩ : ∃ X, X = (WA).alloc (.cells #[.int .i64 k, .int .i64 n, .string s, .slice ba bn bc, .slice fa fn fc, .slice la ln lc] 35) := ⟨_, rfl⟩
      rw [← hWB]
      have hB : WB.heap[(WA).heap.size]? = some (.cells #[.int .i64 k, .int .i64 n, .string s, .slice ba bn bc, .slice fa fn fc, .slice la ln lc] 35 (0, 0)) := by rw [hWB]; exact heap_alloc_new _ _
      have hsB : Step [] id id WA WB := by rw [hWB]; exact Step.alloc _
      have hs := hs.tail hsB
      clear hWB
      refine hK.out _ _ ?_ (fun hHeld => ?_)
      ·exact hall.out _ hs
      clear hK K
      have hRA := hRA.on hsB
      refine wpAnyH_ready (rs := [8, 10]) (by kernel_rfl) (by simp) ?_
      refine AllReadyH.cons (o := _) rfl (fun K hK => ?_) (AllReadyH.cons (o := _) rfl (fun K hK => ?_) AllReadyH.nil)
      ·refine wp_app_one (.tmp 146) (.tmp 148) (by rfl) (by rfl) (by rfl) hs hRA hB rfl honesX.out (by omega) ?_
       intro adC cC WC hsC hs hRC atC
       refine hK.out _ _ ?_ (fun hHeld => ?_)
       ·exact hall.out _ hs
       clear hK K
       refine tkH 9 ?_ rfl (by kernel_rfl) (fun _ _ _ h => h) ?_ hHeld ?_
       rotate_left
       ·intro w' hSw; (try dsimp only at hSw); go_simp
        all_goals (with_reducible rfl)
       simp only [zP, zO, zA, zB, zC, zD, zE, zF]
       refine wpAnyH_ready (rs := [10]) (by kernel_rfl) (by simp) ?_
       refine AllReadyH.cons (o := _) rfl (fun K hK => ?_) AllReadyH.nil
       go_simp
       obtain ⟨WD, hWD⟩ : ∃ X, X = (WC).alloc (.cells #[.int .i64 0, .int .i64 0, (.string ⟨#[]⟩), (.slice none 0 0), (.slice none 0 0), (.slice none 0 0)] 35) := ⟨_, rfl⟩
       rw [← hWD]
       have hD : WD.heap[(WC).heap.size]? = some ((.cells #[.int .i64 0, .int .i64 0, (.string ⟨#[]⟩), (.slice none 0 0), (.slice none 0 0), (.slice none 0 0)] 35) : Obj) := by rw [hWD]; exact heap_alloc_new _ _
       have hsD : Step [] id id WC WD := by rw [hWD]; exact Step.alloc _
       have hDn := hs.size
       have hs := hs.tail hsD
       clear hWD
       refine hK.out _ _ ?_ (fun hHeld => ?_)
       ·exact hall.out _ hs
       clear hK K
       have hfar := hRC.far (Nat.le_refl _)
       have hRC := hRC.on hsD
       have hDl := lt_of_block hD
       obtain ⟨z0, z1, z2, z3, z4, z5⟩ := cells6A hD
       have fz := free_blk hD
       refine wpAnyH_ready (rs := [11]) (by kernel_rfl) (by simp) ?_
       refine AllReadyH.cons (o := _) rfl (fun K hK => ?_) AllReadyH.nil
       go_simp
       obtain ⟨WF, hWF, hX, hs, hRF⟩ := laid_z hD hDn hs hRC hfar (.int .i64 7) (.int .i64 0) (.string ⟨#[]⟩) (.slice none 0 0) (.slice none 0 0) (.slice adC (m + 1) cC)
       change K _ (set6 WD (WC).heap.size (.int .i64 7) (.int .i64 0) (.string ⟨#[]⟩) (.slice none 0 0) (.slice none 0 0) (.slice adC (m + 1) cC))
       rw [← hWF]
       refine hK.out _ _ ?_ (fun hHeld => ?_)
       ·exact hall.out _ hs
       clear hK K
       refine wpAnyH_done (by kernel_rfl) ?_ _
       exact ⟨(WC).heap.size, adC, cC, .pointer (some ⟨M, 0, none⟩), .pointer (some ⟨M, 0, none⟩), .pointer (some ⟨M, 2, none⟩), .pointer (some ⟨M, 7, none⟩), .slice la0 m lc0, .slice adA m cA, .agg #[.int .i64 k, .int .i64 n, .string s, .slice ba bn bc, .slice fa fn fc, .slice la ln lc], .slice (some ⟨(WA).heap.size, 0, none⟩) 1 1, .slice adC (m + 1) cC, .agg #[.int .i64 7, .int .i64 0, (.string ⟨#[]⟩), (.slice none 0 0), (.slice none 0 0), .slice adC (m + 1) cC], by simp only [zP, zD, zE, zF], hX, hRF, hs⟩
      ·go_simp
       obtain ⟨WD, hWD⟩ : ∃ X, X = (WB).alloc (.cells #[.int .i64 0, .int .i64 0, (.string ⟨#[]⟩), (.slice none 0 0), (.slice none 0 0), (.slice none 0 0)] 35) := ⟨_, rfl⟩
       rw [← hWD]
       have hD : WD.heap[(WB).heap.size]? = some ((.cells #[.int .i64 0, .int .i64 0, (.string ⟨#[]⟩), (.slice none 0 0), (.slice none 0 0), (.slice none 0 0)] 35) : Obj) := by rw [hWD]; exact heap_alloc_new _ _
       have hsD : Step [] id id WB WD := by rw [hWD]; exact Step.alloc _
       have hDn := hs.size
       have hs := hs.tail hsD
       clear hWD
       refine hK.out _ _ ?_ (fun hHeld => ?_)
       ·exact hall.out _ hs
       clear hK K
       have hfar := hRA.far (Nat.le_refl _)
       have hRA := hRA.on hsD
       have hB := hsD.at hB (by simp)
       refine wpAnyH_ready (rs := [8]) (by kernel_rfl) (by simp) ?_
       refine AllReadyH.cons (o := _) rfl (fun K hK => ?_) AllReadyH.nil
       refine wp_app_one (.tmp 146) (.tmp 148) (by rfl) (by rfl) (by rfl) hs hRA hB rfl honesX.out (by omega) ?_
       intro adC cC WC hsC hs hRC atC
       refine hK.out _ _ ?_ (fun hHeld => ?_)
       ·exact hall.out _ hs
       clear hK K
       refine tkH 9 ?_ rfl (by kernel_rfl) (fun _ _ _ h => h) ?_ hHeld ?_
       rotate_left
       ·intro w' hSw; (try dsimp only at hSw); go_simp
        all_goals (with_reducible rfl)
       simp only [zP, zO, zA, zB, zC, zD, zE, zF]
       have hfar2 : (Value.slice adC (m + 1) cC).ownBlock ≠ some (WB).heap.size := fun e => by
        have hl := lt_of_block hD
        rcases atC with h | h
        ·exact hfar (by rw [← h]; exact e)
        ·rw [h] at e; injection e with e; omega
       have hD := hsC.at hD (by simpa using hfar)
       have hDl := lt_of_block hD
       obtain ⟨z0, z1, z2, z3, z4, z5⟩ := cells6A hD
       have fz := free_blk hD
       refine wpAnyH_ready (rs := [11]) (by kernel_rfl) (by simp) ?_
       refine AllReadyH.cons (o := _) rfl (fun K hK => ?_) AllReadyH.nil
       go_simp
       obtain ⟨WF, hWF, hX, hs, hRF⟩ := laid_z hD hDn hs hRC hfar2 (.int .i64 7) (.int .i64 0) (.string ⟨#[]⟩) (.slice none 0 0) (.slice none 0 0) (.slice adC (m + 1) cC)
       change K _ (set6 WC (WB).heap.size (.int .i64 7) (.int .i64 0) (.string ⟨#[]⟩) (.slice none 0 0) (.slice none 0 0) (.slice adC (m + 1) cC))
       rw [← hWF]
       refine hK.out _ _ ?_ (fun hHeld => ?_)
       ·exact hall.out _ hs
       clear hK K
       refine wpAnyH_done (by kernel_rfl) ?_ _
       exact ⟨(WB).heap.size, adC, cC, .pointer (some ⟨M, 0, none⟩), .pointer (some ⟨M, 0, none⟩), .pointer (some ⟨M, 2, none⟩), .pointer (some ⟨M, 7, none⟩), .slice la0 m lc0, .slice adA m cA, .agg #[.int .i64 k, .int .i64 n, .string s, .slice ba bn bc, .slice fa fn fc, .slice la ln lc], .slice (some ⟨(WA).heap.size, 0, none⟩) 1 1, .slice adC (m + 1) cC, .agg #[.int .i64 7, .int .i64 0, (.string ⟨#[]⟩), (.slice none 0 0), (.slice none 0 0), .slice adC (m + 1) cC], by simp only [zP, zD, zE, zF], hX, hRF, hs⟩
     ·go_simp
      obtain ⟨WD, hWD⟩ : ∃ X, X = (WA).alloc (.cells #[.int .i64 0, .int .i64 0, (.string ⟨#[]⟩), (.slice none 0 0), (.slice none 0 0), (.slice none 0 0)] 35) := ⟨_, rfl⟩
      rw [← hWD]
      have hD : WD.heap[(WA).heap.size]? = some ((.cells #[.int .i64 0, .int .i64 0, (.string ⟨#[]⟩), (.slice none 0 0), (.slice none 0 0), (.slice none 0 0)] 35) : Obj) := by rw [hWD]; exact heap_alloc_new _ _
      have hsD : Step [] id id WA WD := by rw [hWD]; exact Step.alloc _
      have hDn := hs.size
      have hs := hs.tail hsD
      clear hWD
      refine hK.out _ _ ?_ (fun hHeld => ?_)
      ·exact hall.out _ hs
      clear hK K
      have hfar := hRA.far (Nat.le_refl _)
      have hRA := hRA.on hsD
      refine wpAnyH_ready (rs := [7]) (by kernel_rfl) (by simp) ?_
      refine AllReadyH.cons (o := _) rfl (fun K hK => ?_) AllReadyH.nil
      go_simp
      obtain ⟨WB, hWB⟩ : ∃ X, X = (WD).alloc (.cells #[.int .i64 k, .int .i64 n, .string s, .slice ba bn bc, .slice fa fn fc, .slice la ln lc] 35) := ⟨_, rfl⟩
      rw [← hWB]
      have hB : WB.heap[(WD).heap.size]? = some (.cells #[.int .i64 k, .int .i64 n, .string s, .slice ba bn bc, .slice fa fn fc, .slice la ln lc] 35 (0, 0)) := by rw [hWB]; exact heap_alloc_new _ _
      have hsB : Step [] id id WD WB := by rw [hWB]; exact Step.alloc _
      have hs := hs.tail hsB
      clear hWB
      refine hK.out _ _ ?_ (fun hHeld => ?_)
      ·exact hall.out _ hs
      clear hK K
      have hRA := hRA.on hsB
      have hD := hsB.at hD (by simp)
      refine wpAnyH_ready (rs := [8]) (by kernel_rfl) (by simp) ?_
      refine AllReadyH.cons (o := _) rfl (fun K hK => ?_) AllReadyH.nil
      refine wp_app_one (.tmp 146) (.tmp 148) (by rfl) (by rfl) (by rfl) hs hRA hB rfl honesX.out (by omega) ?_
      intro adC cC WC hsC hs hRC atC
      refine hK.out _ _ ?_ (fun hHeld => ?_)
      ·exact hall.out _ hs
      clear hK K
      refine tkH 9 ?_ rfl (by kernel_rfl) (fun _ _ _ h => h) ?_ hHeld ?_
      rotate_left
      ·intro w' hSw; (try dsimp only at hSw); go_simp
       all_goals (with_reducible rfl)
      simp only [zP, zO, zA, zB, zC, zD, zE, zF]
      have hfar2 : (Value.slice adC (m + 1) cC).ownBlock ≠ some (WA).heap.size := fun e => by
       have hl := lt_of_block hD
       rcases atC with h | h
       ·exact hfar (by rw [← h]; exact e)
       ·rw [h] at e; injection e with e; omega
      have hD := hsC.at hD (by simpa using hfar)
      have hDl := lt_of_block hD
      obtain ⟨z0, z1, z2, z3, z4, z5⟩ := cells6A hD
      have fz := free_blk hD
      refine wpAnyH_ready (rs := [11]) (by kernel_rfl) (by simp) ?_
      refine AllReadyH.cons (o := _) rfl (fun K hK => ?_) AllReadyH.nil
      go_simp
      obtain ⟨WF, hWF, hX, hs, hRF⟩ := laid_z hD hDn hs hRC hfar2 (.int .i64 7) (.int .i64 0) (.string ⟨#[]⟩) (.slice none 0 0) (.slice none 0 0) (.slice adC (m + 1) cC)
      change K _ (set6 WC (WA).heap.size (.int .i64 7) (.int .i64 0) (.string ⟨#[]⟩) (.slice none 0 0) (.slice none 0 0) (.slice adC (m + 1) cC))
      rw [← hWF]
      refine hK.out _ _ ?_ (fun hHeld => ?_)
      ·exact hall.out _ hs
      clear hK K
      refine wpAnyH_done (by kernel_rfl) ?_ _
      exact ⟨(WA).heap.size, adC, cC, .pointer (some ⟨M, 0, none⟩), .pointer (some ⟨M, 0, none⟩), .pointer (some ⟨M, 2, none⟩), .pointer (some ⟨M, 7, none⟩), .slice la0 m lc0, .slice adA m cA, .agg #[.int .i64 k, .int .i64 n, .string s, .slice ba bn bc, .slice fa fn fc, .slice la ln lc], .slice (some ⟨(WD).heap.size, 0, none⟩) 1 1, .slice adC (m + 1) cC, .agg #[.int .i64 7, .int .i64 0, (.string ⟨#[]⟩), (.slice none 0 0), (.slice none 0 0), .slice adC (m + 1) cC], by simp only [zP, zD, zE, zF], hX, hRF, hs⟩
    ·go_simp
     obtain ⟨WB, hWB⟩ : ∃ X, X = (WS).alloc (.cells #[.int .i64 k, .int .i64 n, .string s, .slice ba bn bc, .slice fa fn fc, .slice la ln lc] 35) := ⟨_, rfl⟩
     rw [← hWB]
     have hB : WB.heap[(WS).heap.size]? = some (.cells #[.int .i64 k, .int .i64 n, .string s, .slice ba bn bc, .slice fa fn fc, .slice la ln lc] 35 (0, 0)) := by rw [hWB]; exact heap_alloc_new _ _
     have hsB : Step [] id id WS WB := by rw [hWB]; exact Step.alloc _
     have hs := hs.tail hsB
     clear hWB
     refine hK.out _ _ ?_ (fun hHeld => ?_)
     ·exact hall.out _ hs
     clear hK K
     refine wpAnyH_ready (rs := [5, 10]) (by kernel_rfl) (by simp) ?_
     refine AllReadyH.cons (o := _) rfl (fun K hK => ?_) (AllReadyH.cons (o := _) rfl (fun K hK => ?_) AllReadyH.nil)
     ·refine wp_app_nil (.tmp 145) (by rfl) (by rfl) hs (hsrcH.out.step (hsW.out.tail hs)) hones.out (by omega) ?_
      intro adA cA WA hsA hRA atA
      have hs := hs.tail hsA
      refine hK.out _ _ ?_ (fun hHeld => ?_)
      ·exact hall.out _ hs
      clear hK K
      have hB := hsA.at hB (by simp)
      refine wpAnyH_ready (rs := [8, 10]) (by kernel_rfl) (by simp) ?_
      refine AllReadyH.cons (o := _) rfl (fun K hK => ?_) (AllReadyH.cons (o := _) rfl (fun K hK => ?_) AllReadyH.nil)
      ·refine wp_app_one (.tmp 146) (.tmp 148) (by rfl) (by rfl) (by rfl) hs hRA hB rfl honesX.out (by omega) ?_
       intro adC cC WC hsC hs hRC atC
       refine hK.out _ _ ?_ (fun hHeld => ?_)
       ·exact hall.out _ hs
       clear hK K
       refine tkH 9 ?_ rfl (by kernel_rfl) (fun _ _ _ h => h) ?_ hHeld ?_
       rotate_left
       ·intro w' hSw; (try dsimp only at hSw); go_simp
        all_goals (with_reducible rfl)
       simp only [zP, zO, zA, zB, zC, zD, zE, zF]
       refine wpAnyH_ready (rs := [10]) (by kernel_rfl) (by simp) ?_
       refine AllReadyH.cons (o := _) rfl (fun K hK => ?_) AllReadyH.nil
       go_simp
       obtain ⟨WD, hWD⟩ : ∃ X, X = (WC).alloc (.cells #[.int .i64 0, .int .i64 0, (.string ⟨#[]⟩), (.slice none 0 0), (.slice none 0 0), (.slice none 0 0)] 35) := ⟨_, rfl⟩
       rw [← hWD]
       have hD : WD.heap[(WC).heap.size]? = some ((.cells #[.int .i64 0, .int .i64 0, (.string ⟨#[]⟩), (.slice none 0 0), (.slice none 0 0), (.slice none 0 0)] 35) : Obj) := by rw [hWD]; exact heap_alloc_new _ _
       have hsD : Step [] id id WC WD := by rw [hWD]; exact Step.alloc _
       have hDn := hs.size
       have hs := hs.tail hsD
       clear hWD
       refine hK.out _ _ ?_ (fun hHeld => ?_)
       ·exact hall.out _ hs
       clear hK K
       have hfar := hRC.far (Nat.le_refl _)
       have hRC := hRC.on hsD
       have hDl := lt_of_block hD
       obtain ⟨z0, z1, z2, z3, z4, z5⟩ := cells6A hD
       have fz := free_blk hD
       refine wpAnyH_ready (rs := [11]) (by kernel_rfl) (by simp) ?_
       refine AllReadyH.cons (o := _) rfl (fun K hK => ?_) AllReadyH.nil
       go_simp
       obtain ⟨WF, hWF, hX, hs, hRF⟩ := laid_z hD hDn hs hRC hfar (.int .i64 7) (.int .i64 0) (.string ⟨#[]⟩) (.slice none 0 0) (.slice none 0 0) (.slice adC (m + 1) cC)
       change K _ (set6 WD (WC).heap.size (.int .i64 7) (.int .i64 0) (.string ⟨#[]⟩) (.slice none 0 0) (.slice none 0 0) (.slice adC (m + 1) cC))
       rw [← hWF]
       refine hK.out _ _ ?_ (fun hHeld => ?_)
       ·exact hall.out _ hs
       clear hK K
       refine wpAnyH_done (by kernel_rfl) ?_ _
       exact ⟨(WC).heap.size, adC, cC, .pointer (some ⟨M, 0, none⟩), .pointer (some ⟨M, 0, none⟩), .pointer (some ⟨M, 2, none⟩), .pointer (some ⟨M, 7, none⟩), .slice la0 m lc0, .slice adA m cA, .agg #[.int .i64 k, .int .i64 n, .string s, .slice ba bn bc, .slice fa fn fc, .slice la ln lc], .slice (some ⟨(WS).heap.size, 0, none⟩) 1 1, .slice adC (m + 1) cC, .agg #[.int .i64 7, .int .i64 0, (.string ⟨#[]⟩), (.slice none 0 0), (.slice none 0 0), .slice adC (m + 1) cC], by simp only [zP, zD, zE, zF], hX, hRF, hs⟩
      ·go_simp
       obtain ⟨WD, hWD⟩ : ∃ X, X = (WA).alloc (.cells #[.int .i64 0, .int .i64 0, (.string ⟨#[]⟩), (.slice none 0 0), (.slice none 0 0), (.slice none 0 0)] 35) := ⟨_, rfl⟩
       rw [← hWD]
       have hD : WD.heap[(WA).heap.size]? = some ((.cells #[.int .i64 0, .int .i64 0, (.string ⟨#[]⟩), (.slice none 0 0), (.slice none 0 0), (.slice none 0 0)] 35) : Obj) := by rw [hWD]; exact heap_alloc_new _ _
       have hsD : Step [] id id WA WD := by rw [hWD]; exact Step.alloc _
       have hDn := hs.size
       have hs := hs.tail hsD
       clear hWD
       refine hK.out _ _ ?_ (fun hHeld => ?_)
       ·exact hall.out _ hs
       clear hK K
       have hfar := hRA.far (Nat.le_refl _)
       have hRA := hRA.on hsD
       have hB := hsD.at hB (by simp)
       refine wpAnyH_ready (rs := [8]) (by kernel_rfl) (by simp) ?_
       refine AllReadyH.cons (o := _) rfl (fun K hK => ?_) AllReadyH.nil
       refine wp_app_one (.tmp 146) (.tmp 148) (by rfl) (by rfl) (by rfl) hs hRA hB rfl honesX.out (by omega) ?_
       intro adC cC WC hsC hs hRC atC
       refine hK.out _ _ ?_ (fun hHeld => ?_)
       ·exact hall.out _ hs
       clear hK K
       refine tkH 9 ?_ rfl (by kernel_rfl) (fun _ _ _ h => h) ?_ hHeld ?_
       rotate_left
       ·intro w' hSw; (try dsimp only at hSw); go_simp
        all_goals (with_reducible rfl)
       simp only [zP, zO, zA, zB, zC, zD, zE, zF]
       have hfar2 : (Value.slice adC (m + 1) cC).ownBlock ≠ some (WA).heap.size := fun e => by
        have hl := lt_of_block hD
        rcases atC with h | h
        ·exact hfar (by rw [← h]; exact e)
        ·rw [h] at e; injection e with e; omega
       have hD := hsC.at hD (by simpa using hfar)
       have hDl := lt_of_block hD
       obtain ⟨z0, z1, z2, z3, z4, z5⟩ := cells6A hD
       have fz := free_blk hD
       refine wpAnyH_ready (rs := [11]) (by kernel_rfl) (by simp) ?_
       refine AllReadyH.cons (o := _) rfl (fun K hK => ?_) AllReadyH.nil
       go_simp
       obtain ⟨WF, hWF, hX, hs, hRF⟩ := laid_z hD hDn hs hRC hfar2 (.int .i64 7) (.int .i64 0) (.string ⟨#[]⟩) (.slice none 0 0) (.slice none 0 0) (.slice adC (m + 1) cC)
       change K _ (set6 WC (WA).heap.size (.int .i64 7) (.int .i64 0) (.string ⟨#[]⟩) (.slice none 0 0) (.slice none 0 0) (.slice adC (m + 1) cC))
       rw [← hWF]
       refine hK.out _ _ ?_ (fun hHeld => ?_)
       ·exact hall.out _ hs
       clear hK K
       refine wpAnyH_done (by kernel_rfl) ?_ _
       exact ⟨(WA).heap.size, adC, cC, .pointer (some ⟨M, 0, none⟩), .pointer (some ⟨M, 0, none⟩), .pointer (some ⟨M, 2, none⟩), .pointer (some ⟨M, 7, none⟩), .slice la0 m lc0, .slice adA m cA, .agg #[.int .i64 k, .int .i64 n, .string s, .slice ba bn bc, .slice fa fn fc, .slice la ln lc], .slice (some ⟨(WS).heap.size, 0, none⟩) 1 1, .slice adC (m + 1) cC, .agg #[.int .i64 7, .int .i64 0, (.string ⟨#[]⟩), (.slice none 0 0), (.slice none 0 0), .slice adC (m + 1) cC], by simp only [zP, zD, zE, zF], hX, hRF, hs⟩
     ·go_simp
      obtain ⟨WD, hWD⟩ : ∃ X, X = (WB).alloc (.cells #[.int .i64 0, .int .i64 0, (.string ⟨#[]⟩), (.slice none 0 0), (.slice none 0 0), (.slice none 0 0)] 35) := ⟨_, rfl⟩
      rw [← hWD]
      have hD : WD.heap[(WB).heap.size]? = some ((.cells #[.int .i64 0, .int .i64 0, (.string ⟨#[]⟩), (.slice none 0 0), (.slice none 0 0), (.slice none 0 0)] 35) : Obj) := by rw [hWD]; exact heap_alloc_new _ _
      have hsD : Step [] id id WB WD := by rw [hWD]; exact Step.alloc _
      have hDn := hs.size
      have hs := hs.tail hsD
      clear hWD
      refine hK.out _ _ ?_ (fun hHeld => ?_)
      ·exact hall.out _ hs
      clear hK K
      have hB := hsD.at hB (by simp)
      refine wpAnyH_ready (rs := [5]) (by kernel_rfl) (by simp) ?_
      refine AllReadyH.cons (o := _) rfl (fun K hK => ?_) AllReadyH.nil
      refine wp_app_nil (.tmp 145) (by rfl) (by rfl) hs (hsrcH.out.step (hsW.out.tail hs)) hones.out (by omega) ?_
      intro adA cA WA hsA hRA atA
      have hs := hs.tail hsA
      refine hK.out _ _ ?_ (fun hHeld => ?_)
      ·exact hall.out _ hs
      clear hK K
      have hfar : (Value.slice adA m cA).ownBlock ≠ some (WB).heap.size := fun e => by
       have hl := lt_of_block hD
       rcases atA with h | h
       ·rw [h] at e; cases e
       ·rw [h] at e; injection e with e; omega
      have hD := hsA.at hD (by simp)
      have hB := hsA.at hB (by simp)
      refine wpAnyH_ready (rs := [8]) (by kernel_rfl) (by simp) ?_
      refine AllReadyH.cons (o := _) rfl (fun K hK => ?_) AllReadyH.nil
      refine wp_app_one (.tmp 146) (.tmp 148) (by rfl) (by rfl) (by rfl) hs hRA hB rfl honesX.out (by omega) ?_
      intro adC cC WC hsC hs hRC atC
      refine hK.out _ _ ?_ (fun hHeld => ?_)
      ·exact hall.out _ hs
      clear hK K
      refine tkH 9 ?_ rfl (by kernel_rfl) (fun _ _ _ h => h) ?_ hHeld ?_
      rotate_left
      ·intro w' hSw; (try dsimp only at hSw); go_simp
       all_goals (with_reducible rfl)
      simp only [zP, zO, zA, zB, zC, zD, zE, zF]
      have hfar2 : (Value.slice adC (m + 1) cC).ownBlock ≠ some (WB).heap.size := fun e => by
       have hl := lt_of_block hD
       rcases atC with h | h
       ·exact hfar (by rw [← h]; exact e)
       ·rw [h] at e; injection e with e; omega
      have hD := hsC.at hD (by simpa using hfar)
      have hDl := lt_of_block hD
      obtain ⟨z0, z1, z2, z3, z4, z5⟩ := cells6A hD
      have fz := free_blk hD
      refine wpAnyH_ready (rs := [11]) (by kernel_rfl) (by simp) ?_
      refine AllReadyH.cons (o := _) rfl (fun K hK => ?_) AllReadyH.nil
      go_simp
      obtain ⟨WF, hWF, hX, hs, hRF⟩ := laid_z hD hDn hs hRC hfar2 (.int .i64 7) (.int .i64 0) (.string ⟨#[]⟩) (.slice none 0 0) (.slice none 0 0) (.slice adC (m + 1) cC)
      change K _ (set6 WC (WB).heap.size (.int .i64 7) (.int .i64 0) (.string ⟨#[]⟩) (.slice none 0 0) (.slice none 0 0) (.slice adC (m + 1) cC))
      rw [← hWF]
      refine hK.out _ _ ?_ (fun hHeld => ?_)
      ·exact hall.out _ hs
      clear hK K
      refine wpAnyH_done (by kernel_rfl) ?_ _
      exact ⟨(WB).heap.size, adC, cC, .pointer (some ⟨M, 0, none⟩), .pointer (some ⟨M, 0, none⟩), .pointer (some ⟨M, 2, none⟩), .pointer (some ⟨M, 7, none⟩), .slice la0 m lc0, .slice adA m cA, .agg #[.int .i64 k, .int .i64 n, .string s, .slice ba bn bc, .slice fa fn fc, .slice la ln lc], .slice (some ⟨(WS).heap.size, 0, none⟩) 1 1, .slice adC (m + 1) cC, .agg #[.int .i64 7, .int .i64 0, (.string ⟨#[]⟩), (.slice none 0 0), (.slice none 0 0), .slice adC (m + 1) cC], by simp only [zP, zD, zE, zF], hX, hRF, hs⟩
    ·go_simp
     obtain ⟨WD, hWD⟩ : ∃ X, X = (WS).alloc (.cells #[.int .i64 0, .int .i64 0, (.string ⟨#[]⟩), (.slice none 0 0), (.slice none 0 0), (.slice none 0 0)] 35) := ⟨_, rfl⟩
     rw [← hWD]
     have hD : WD.heap[(WS).heap.size]? = some ((.cells #[.int .i64 0, .int .i64 0, (.string ⟨#[]⟩), (.slice none 0 0), (.slice none 0 0), (.slice none 0 0)] 35) : Obj) := by rw [hWD]; exact heap_alloc_new _ _
     have hsD : Step [] id id WS WD := by rw [hWD]; exact Step.alloc _
     have hDn := hs.size
     have hs := hs.tail hsD
     clear hWD
     refine hK.out _ _ ?_ (fun hHeld => ?_)
     ·exact hall.out _ hs
     clear hK K
     refine wpAnyH_ready (rs := [5, 7]) (by kernel_rfl) (by simp) ?_
     refine AllReadyH.cons (o := _) rfl (fun K hK => ?_) (AllReadyH.cons (o := _) rfl (fun K hK => ?_) AllReadyH.nil)
     ·refine wp_app_nil (.tmp 145) (by rfl) (by rfl) hs (hsrcH.out.step (hsW.out.tail hs)) hones.out (by omega) ?_
      intro adA cA WA hsA hRA atA
      have hs := hs.tail hsA
      refine hK.out _ _ ?_ (fun hHeld => ?_)
      ·exact hall.out _ hs
      clear hK K
      have hfar : (Value.slice adA m cA).ownBlock ≠ some (WS).heap.size := fun e => by
       have hl := lt_of_block hD
       rcases atA with h | h
       ·rw [h] at e; cases e
       ·rw [h] at e; injection e with e; omega
      have hD := hsA.at hD (by simp)
      refine wpAnyH_ready (rs := [7]) (by kernel_rfl) (by simp) ?_
      refine AllReadyH.cons (o := _) rfl (fun K hK => ?_) AllReadyH.nil
      go_simp
      obtain ⟨WB, hWB⟩ : ∃ X, X = (WA).alloc (.cells #[.int .i64 k, .int .i64 n, .string s, .slice ba bn bc, .slice fa fn fc, .slice la ln lc] 35) := ⟨_, rfl⟩
      rw [← hWB]
      have hB : WB.heap[(WA).heap.size]? = some (.cells #[.int .i64 k, .int .i64 n, .string s, .slice ba bn bc, .slice fa fn fc, .slice la ln lc] 35 (0, 0)) := by rw [hWB]; exact heap_alloc_new _ _
      have hsB : Step [] id id WA WB := by rw [hWB]; exact Step.alloc _
      have hs := hs.tail hsB
      clear hWB
      refine hK.out _ _ ?_ (fun hHeld => ?_)
      ·exact hall.out _ hs
      clear hK K
      have hRA := hRA.on hsB
      have hD := hsB.at hD (by simp)
      refine wpAnyH_ready (rs := [8]) (by kernel_rfl) (by simp) ?_
      refine AllReadyH.cons (o := _) rfl (fun K hK => ?_) AllReadyH.nil
      refine wp_app_one (.tmp 146) (.tmp 148) (by rfl) (by rfl) (by rfl) hs hRA hB rfl honesX.out (by omega) ?_
      intro adC cC WC hsC hs hRC atC
      refine hK.out _ _ ?_ (fun hHeld => ?_)
      ·exact hall.out _ hs
      clear hK K
      refine tkH 9 ?_ rfl (by kernel_rfl) (fun _ _ _ h => h) ?_ hHeld ?_
      rotate_left
      ·intro w' hSw; (try dsimp only at hSw); go_simp
       all_goals (with_reducible rfl)
      simp only [zP, zO, zA, zB, zC, zD, zE, zF]
      have hfar2 : (Value.slice adC (m + 1) cC).ownBlock ≠ some (WS).heap.size := fun e => by
       have hl := lt_of_block hD
       rcases atC with h | h
       ·exact hfar (by rw [← h]; exact e)
       ·rw [h] at e; injection e with e; omega
      have hD := hsC.at hD (by simpa using hfar)
      have hDl := lt_of_block hD
      obtain ⟨z0, z1, z2, z3, z4, z5⟩ := cells6A hD
      have fz := free_blk hD
      refine wpAnyH_ready (rs := [11]) (by kernel_rfl) (by simp) ?_
      refine AllReadyH.cons (o := _) rfl (fun K hK => ?_) AllReadyH.nil
      go_simp
      obtain ⟨WF, hWF, hX, hs, hRF⟩ := laid_z hD hDn hs hRC hfar2 (.int .i64 7) (.int .i64 0) (.string ⟨#[]⟩) (.slice none 0 0) (.slice none 0 0) (.slice adC (m + 1) cC)
      change K _ (set6 WC (WS).heap.size (.int .i64 7) (.int .i64 0) (.string ⟨#[]⟩) (.slice none 0 0) (.slice none 0 0) (.slice adC (m + 1) cC))
      rw [← hWF]
      refine hK.out _ _ ?_ (fun hHeld => ?_)
      ·exact hall.out _ hs
      clear hK K
      refine wpAnyH_done (by kernel_rfl) ?_ _
      exact ⟨(WS).heap.size, adC, cC, .pointer (some ⟨M, 0, none⟩), .pointer (some ⟨M, 0, none⟩), .pointer (some ⟨M, 2, none⟩), .pointer (some ⟨M, 7, none⟩), .slice la0 m lc0, .slice adA m cA, .agg #[.int .i64 k, .int .i64 n, .string s, .slice ba bn bc, .slice fa fn fc, .slice la ln lc], .slice (some ⟨(WA).heap.size, 0, none⟩) 1 1, .slice adC (m + 1) cC, .agg #[.int .i64 7, .int .i64 0, (.string ⟨#[]⟩), (.slice none 0 0), (.slice none 0 0), .slice adC (m + 1) cC], by simp only [zP, zD, zE, zF], hX, hRF, hs⟩
     ·go_simp
      obtain ⟨WB, hWB⟩ : ∃ X, X = (WD).alloc (.cells #[.int .i64 k, .int .i64 n, .string s, .slice ba bn bc, .slice fa fn fc, .slice la ln lc] 35) := ⟨_, rfl⟩
      rw [← hWB]
      have hB : WB.heap[(WD).heap.size]? = some (.cells #[.int .i64 k, .int .i64 n, .string s, .slice ba bn bc, .slice fa fn fc, .slice la ln lc] 35 (0, 0)) := by rw [hWB]; exact heap_alloc_new _ _
      have hsB : Step [] id id WD WB := by rw [hWB]; exact Step.alloc _
      have hs := hs.tail hsB
      clear hWB
      refine hK.out _ _ ?_ (fun hHeld => ?_)
      ·exact hall.out _ hs
      clear hK K
      have hD := hsB.at hD (by simp)
      refine wpAnyH_ready (rs := [5]) (by kernel_rfl) (by simp) ?_
      refine AllReadyH.cons (o := _) rfl (fun K hK => ?_) AllReadyH.nil
      refine wp_app_nil (.tmp 145) (by rfl) (by rfl) hs (hsrcH.out.step (hsW.out.tail hs)) hones.out (by omega) ?_
      intro adA cA WA hsA hRA atA
      have hs := hs.tail hsA
      refine hK.out _ _ ?_ (fun hHeld => ?_)
      ·exact hall.out _ hs
      clear hK K
      have hfar : (Value.slice adA m cA).ownBlock ≠ some (WS).heap.size := fun e => by
       have hl := lt_of_block hD
       rcases atA with h | h
       ·rw [h] at e; cases e
       ·rw [h] at e; injection e with e; omega
      have hD := hsA.at hD (by simp)
      have hB := hsA.at hB (by simp)
      refine wpAnyH_ready (rs := [8]) (by kernel_rfl) (by simp) ?_
      refine AllReadyH.cons (o := _) rfl (fun K hK => ?_) AllReadyH.nil
      refine wp_app_one (.tmp 146) (.tmp 148) (by rfl) (by rfl) (by rfl) hs hRA hB rfl honesX.out (by omega) ?_
      intro adC cC WC hsC hs hRC atC
      refine hK.out _ _ ?_ (fun hHeld => ?_)
      ·exact hall.out _ hs
      clear hK K
      refine tkH 9 ?_ rfl (by kernel_rfl) (fun _ _ _ h => h) ?_ hHeld ?_
      rotate_left
      ·intro w' hSw; (try dsimp only at hSw); go_simp
       all_goals (with_reducible rfl)
      simp only [zP, zO, zA, zB, zC, zD, zE, zF]
      have hfar2 : (Value.slice adC (m + 1) cC).ownBlock ≠ some (WS).heap.size := fun e => by
       have hl := lt_of_block hD
       rcases atC with h | h
       ·exact hfar (by rw [← h]; exact e)
       ·rw [h] at e; injection e with e; omega
      have hD := hsC.at hD (by simpa using hfar)
      have hDl := lt_of_block hD
      obtain ⟨z0, z1, z2, z3, z4, z5⟩ := cells6A hD
      have fz := free_blk hD
      refine wpAnyH_ready (rs := [11]) (by kernel_rfl) (by simp) ?_
      refine AllReadyH.cons (o := _) rfl (fun K hK => ?_) AllReadyH.nil
      go_simp
      obtain ⟨WF, hWF, hX, hs, hRF⟩ := laid_z hD hDn hs hRC hfar2 (.int .i64 7) (.int .i64 0) (.string ⟨#[]⟩) (.slice none 0 0) (.slice none 0 0) (.slice adC (m + 1) cC)
      change K _ (set6 WC (WS).heap.size (.int .i64 7) (.int .i64 0) (.string ⟨#[]⟩) (.slice none 0 0) (.slice none 0 0) (.slice adC (m + 1) cC))
      rw [← hWF]
      refine hK.out _ _ ?_ (fun hHeld => ?_)
      ·exact hall.out _ hs
      clear hK K
      refine wpAnyH_done (by kernel_rfl) ?_ _
      exact ⟨(WS).heap.size, adC, cC, .pointer (some ⟨M, 0, none⟩), .pointer (some ⟨M, 0, none⟩), .pointer (some ⟨M, 2, none⟩), .pointer (some ⟨M, 7, none⟩), .slice la0 m lc0, .slice adA m cA, .agg #[.int .i64 k, .int .i64 n, .string s, .slice ba bn bc, .slice fa fn fc, .slice la ln lc], .slice (some ⟨(WD).heap.size, 0, none⟩) 1 1, .slice adC (m + 1) cC, .agg #[.int .i64 7, .int .i64 0, (.string ⟨#[]⟩), (.slice none 0 0), (.slice none 0 0), .slice adC (m + 1) cC], by simp only [zP, zD, zE, zF], hX, hRF, hs⟩
   intro ex a' w' hQ
   cases ex <;> try exact hQ.elim
   obtain ⟨Z, adC, cC, u1, u2, u3, u4, u5, u6, u7, u8, u9, u10, rfl, hX, hRF, hs⟩ := hQ
   simp only [zP, zD, zE, zF]
   obtain ⟨WF, hWF⟩ : ∃ X, X = w' := ⟨_, rfl⟩
   rw [← hWF] at hX hRF hs ⊢
   clear hWF c0 c1 c2 c3 c4 c5 c6 c7 b0 b1 b2 b3 b4 b5 fM hlM hlB
   have hM6 := hs.at hMH.out (by simp)
   have c1 := cell_blk hM6 (i := 1) rfl
   have c2 := cell_blk hM6 (i := 2) rfl
   have c3 := cell_blk hM6 (i := 3) rfl
   have c4 := cell_blk hM6 (i := 4) rfl
   have c5 := cell_blk hM6 (i := 5) rfl
   have c6 := cell_blk hM6 (i := 6) rfl
   have c7 := cell_blk hM6 (i := 7) rfl
   have fM := free_blk hM6
   have lM := lt_of_block hM6
   obtain ⟨x0, x1, x2, x3, x4, x5⟩ := cells6A hX
   have lX := lt_of_block hX
   have hvF := hmore.out WF adC cC (hsW.out.tail hs) hRF.row (fun k hk => Nat.le_trans hsW.out.size (hRF.new k hk))
   have hown := Lib.hid (ref_own hvF hqH.out)
   have hvFH := Lib.hid hvF
   have hsH := Lib.hid (hsW.out.tail hs)
   have hMXH := Lib.hid hM6
   have hXH := Lib.hid hX
   clear hvF hs hRF hM6 hX
   go_wp2_with fail
   refine hown.out.mono ?_
   rintro e w7 ⟨rfl, hs7⟩
   clear c1 c2 c3 c4 c5 c6 c7 fM lM x0 x1 x2 x3 x4 x5 lX
   have hM7 := hs7.at hMXH.out (by simp)
   have hX7 := hs7.at hXH.out (by simp)
   have c1 := cell_blk hM7 (i := 1) rfl
   have c2 := cell_blk hM7 (i := 2) rfl
   have c3 := cell_blk hM7 (i := 3) rfl
   have c4 := cell_blk hM7 (i := 4) rfl
   have c5 := cell_blk hM7 (i := 5) rfl
   have c6 := cell_blk hM7 (i := 6) rfl
   have c7 := cell_blk hM7 (i := 7) rfl
   have fM := free_blk hM7
   have lM := lt_of_block hM7
   obtain ⟨x0, x1, x2, x3, x4, x5⟩ := cells6A hX7
   have lX := lt_of_block hX7
   have hM7H := Lib.hid hM7
   have hs7H := Lib.hid (hsH.out.tail hs7)
   have hs76H := Lib.hid hs7
   clear hs7 hM7 hX7
   by_cases ho : ownV (listV (l ++ [x])) < 0
   ·have hoR : ownR (listV (l ++ [x])) = -1 := by unfold ownR; rw [if_pos ho]
    rw [hoR]
    have hoH := Lib.hid ho
    clear ho hoR
    go_wp2_with fail
    go_ret
    (try (unfold RSet; rw [if_neg (by rw [hanyH.out]; simp)]))
    unfold RPush
    rw [if_pos hoH.out]
    exact ⟨rfl, hM7H.out, hs7H.out.mono (fun _ h => by cases h)⟩
   ·have hoR : ownR (listV (l ++ [x])) = ownV (listV (l ++ [x])) := by unfold ownR; rw [if_neg ho]
    rw [hoR]
    have hoH := Lib.hid ho
    obtain ⟨O, hO⟩ : ∃ O, O = ownV (listV (l ++ [x])) := ⟨_, rfl⟩
    rw [← hO] at ho ⊢
    have hob : decide (O < 0) = false := decide_eq_false ho
    clear ho hO hoR
    go_wp2_with fail
    go_ret
    (try (unfold RSet; rw [if_neg (by rw [hanyH.out]; simp)]))
    unfold RPush
    rw [if_neg (by have := hoH.out; omega)]
    have hend := value_ends (u0 := .int .i64 7) (u1 := .int .i64 0) (u2 := (.string ⟨#[]⟩)) (u3 := (.slice none 0 0)) (u4 := (.slice none 0 0)) (u5 := .slice adC (m + 1) cC) hM7H.out hs7H.out
    refine ⟨_, _, _, _, _, _, hend, (hvFH.out.keep (w' := w7) (fun _ h => h) (fun k hk hl => (hs76H.out.keep k hl (by simp)).2)).keep (fun _ h => h) (fun k hP hl => ?_)⟩
    obtain ⟨-, -, hst⟩ := hend
    exact set_far (by
     rcases hP with h | h
     ·exact hPM.out k h
     ·exact h.2)
  ·have hm1 : (0 : Int) < (m : Int) := by omega
   clear hm0
   go_wp2_with fail
   refine wp_more m (xs ++ [.int .i64 k, .int .i64 n, .string s, .slice ba bn bc, .slice fa fn fc, .slice la ln lc]) ?_ ?_
   ·refine wp_region_held_drew (S := fun w' => w'.cell? ⟨M, 7, none⟩ = some (.slice la0 m lc0) ∧ w'.cell? ⟨w.heap.size, 0, none⟩ = some (.int .i64 k) ∧ w'.cell? ⟨w.heap.size, 1, none⟩ = some (.int .i64 n) ∧ w'.cell? ⟨w.heap.size, 2, none⟩ = some (.string s) ∧ w'.cell? ⟨w.heap.size, 3, none⟩ = some (.slice ba bn bc) ∧ w'.cell? ⟨w.heap.size, 4, none⟩ = some (.slice fa fn fc) ∧ w'.cell? ⟨w.heap.size, 5, none⟩ = some (.slice la ln lc)) (by kernel_rfl) ⟨c7, b0, b1, b2, b3, b4, b5⟩ (fun hHeld => ?_)
    obtain ⟨WS, hWS⟩ : ∃ X, X = (wr).drew := ⟨_, rfl⟩
    have hs : Step [] id id wr WS := by rw [hWS]; exact Step.drew
    rw [← hWS]
    (try rw [← hWS] at hHeld)
    clear hWS c0 c1 c2 c3 c4 c5 c6 c7 b0 b1 b2 b3 b4 b5 fM hlM hlB
    refine tkH 0 ?_ rfl (by kernel_rfl) (fun _ _ _ h => h) ?_ hHeld ?_
    rotate_left
    ·intro w' hSw; (try dsimp only at hSw); go_simp
     all_goals (with_reducible rfl)
    simp only [zP, zO, zA, zB, zC, zD, zE, zF]
    refine tkH 1 ?_ rfl (by kernel_rfl) (fun _ _ _ h => h) ?_ hHeld ?_
    rotate_left
    ·intro w' hSw; (try dsimp only at hSw); go_simp
     all_goals (with_reducible rfl)
    simp only [zP, zO, zA, zB, zC, zD, zE, zF]
    refine tkH 2 ?_ rfl (by kernel_rfl) (fun _ _ _ h => h) ?_ hHeld ?_
    rotate_left
    ·intro w' hSw; (try dsimp only at hSw); go_simp
     all_goals (with_reducible rfl)
    simp only [zP, zO, zA, zB, zC, zD, zE, zF]
    refine tkH 3 ?_ rfl (by kernel_rfl) (fun _ _ _ h => h) ?_ hHeld ?_
    rotate_left
    ·intro w' hSw; (try dsimp only at hSw); go_simp
     all_goals (with_reducible rfl)
    simp only [zP, zO, zA, zB, zC, zD, zE, zF]
    refine tkH 4 ?_ rfl (by kernel_rfl) (fun _ _ _ h => h) ?_ hHeld ?_
    rotate_left
    ·intro w' hSw; (try dsimp only at hSw); go_simp
     all_goals (with_reducible rfl)
    simp only [zP, zO, zA, zB, zC, zD, zE, zF]
    refine tkH 6 ?_ rfl (by kernel_rfl) (fun _ _ _ h => h) ?_ hHeld ?_
    rotate_left
    ·intro w' hSw; (try dsimp only at hSw); go_simp
     all_goals (with_reducible rfl)
    simp only [zP, zO, zA, zB, zC, zD, zE, zF]
    refine wpAnyH_ready (rs := [5, 7, 10]) (by kernel_rfl) (by simp) ?_
    refine AllReadyH.cons (o := _) rfl (fun K hK => ?_) (AllReadyH.cons (o := _) rfl (fun K hK => ?_) (AllReadyH.cons (o := _) rfl (fun K hK => ?_) AllReadyH.nil))
    ·refine wp_app_nil (.tmp 145) (by rfl) (by rfl) hs (hsrcH.out.step (hsW.out.tail hs)) hones.out (by omega) ?_
     intro adA cA WA hsA hRA atA
     have hs := hs.tail hsA
     refine hK.out _ _ ?_ (fun hHeld => ?_)
     ·exact hall.out _ hs
     clear hK K
     refine wpAnyH_ready (rs := [7, 10]) (by kernel_rfl) (by simp) ?_
     refine AllReadyH.cons (o := _) rfl (fun K hK => ?_) (AllReadyH.cons (o := _) rfl (fun K hK => ?_) AllReadyH.nil)
     ·go_simp
      obtain ⟨WB, hWB⟩ : ∃ X, X = (WA).alloc (.cells #[.int .i64 k, .int .i64 n, .string s, .slice ba bn bc, .slice fa fn fc, .slice la ln lc] 35) := ⟨_, rfl⟩
      rw [← hWB]
      have hB : WB.heap[(WA).heap.size]? = some (.cells #[.int .i64 k, .int .i64 n, .string s, .slice ba bn bc, .slice fa fn fc, .slice la ln lc] 35 (0, 0)) := by rw [hWB]; exact heap_alloc_new _ _
      have hsB : Step [] id id WA WB := by rw [hWB]; exact Step.alloc _
      have hs := hs.tail hsB
      clear hWB
      refine hK.out _ _ ?_ (fun hHeld => ?_)
      ·exact hall.out _ hs
      clear hK K
      have hRA := hRA.on hsB
      refine wpAnyH_ready (rs := [8, 10]) (by kernel_rfl) (by simp) ?_
      refine AllReadyH.cons (o := _) rfl (fun K hK => ?_) (AllReadyH.cons (o := _) rfl (fun K hK => ?_) AllReadyH.nil)
      ·refine wp_app_one (.tmp 146) (.tmp 148) (by rfl) (by rfl) (by rfl) hs hRA hB rfl honesX.out (by omega) ?_
       intro adC cC WC hsC hs hRC atC
       refine hK.out _ _ ?_ (fun hHeld => ?_)
       ·exact hall.out _ hs
       clear hK K
       refine tkH 9 ?_ rfl (by kernel_rfl) (fun _ _ _ h => h) ?_ hHeld ?_
       rotate_left
       ·intro w' hSw; (try dsimp only at hSw); go_simp
        all_goals (with_reducible rfl)
       simp only [zP, zO, zA, zB, zC, zD, zE, zF]
       refine wpAnyH_ready (rs := [10]) (by kernel_rfl) (by simp) ?_
       refine AllReadyH.cons (o := _) rfl (fun K hK => ?_) AllReadyH.nil
       go_simp
       obtain ⟨WD, hWD⟩ : ∃ X, X = (WC).alloc (.cells #[.int .i64 0, .int .i64 0, (.string ⟨#[]⟩), (.slice none 0 0), (.slice none 0 0), (.slice none 0 0)] 35) := ⟨_, rfl⟩
       rw [← hWD]
       have hD : WD.heap[(WC).heap.size]? = some ((.cells #[.int .i64 0, .int .i64 0, (.string ⟨#[]⟩), (.slice none 0 0), (.slice none 0 0), (.slice none 0 0)] 35) : Obj) := by rw [hWD]; exact heap_alloc_new _ _
       have hsD : Step [] id id WC WD := by rw [hWD]; exact Step.alloc _
       have hDn := hs.size
       have hs := hs.tail hsD
       clear hWD
       refine hK.out _ _ ?_ (fun hHeld => ?_)
       ·exact hall.out _ hs
       clear hK K
       have hfar := hRC.far (Nat.le_refl _)
       have hRC := hRC.on hsD
       have hDl := lt_of_block hD
       obtain ⟨z0, z1, z2, z3, z4, z5⟩ := cells6A hD
       have fz := free_blk hD
       refine wpAnyH_ready (rs := [11]) (by kernel_rfl) (by simp) ?_
       refine AllReadyH.cons (o := _) rfl (fun K hK => ?_) AllReadyH.nil
       go_simp
       obtain ⟨WF, hWF, hX, hs, hRF⟩ := laid_z hD hDn hs hRC hfar (.int .i64 7) (.int .i64 0) (.string ⟨#[]⟩) (.slice none 0 0) (.slice none 0 0) (.slice adC (m + 1) cC)
       change K _ (set6 WD (WC).heap.size (.int .i64 7) (.int .i64 0) (.string ⟨#[]⟩) (.slice none 0 0) (.slice none 0 0) (.slice adC (m + 1) cC))
       rw [← hWF]
       refine hK.out _ _ ?_ (fun hHeld => ?_)
       ·exact hall.out _ hs
       clear hK K
       refine wpAnyH_done (by kernel_rfl) ?_ _
       exact ⟨(WC).heap.size, adC, cC, .pointer (some ⟨M, 0, none⟩), .pointer (some ⟨M, 0, none⟩), .pointer (some ⟨M, 2, none⟩), .pointer (some ⟨M, 7, none⟩), .slice la0 m lc0, .slice adA m cA, .agg #[.int .i64 k, .int .i64 n, .string s, .slice ba bn bc, .slice fa fn fc, .slice la ln lc], .slice (some ⟨(WA).heap.size, 0, none⟩) 1 1, .slice adC (m + 1) cC, .agg #[.int .i64 7, .int .i64 0, (.string ⟨#[]⟩), (.slice none 0 0), (.slice none 0 0), .slice adC (m + 1) cC], by simp only [zP, zD, zE, zF], hX, hRF, hs⟩
      ·go_simp
       obtain ⟨WD, hWD⟩ : ∃ X, X = (WB).alloc (.cells #[.int .i64 0, .int .i64 0, (.string ⟨#[]⟩), (.slice none 0 0), (.slice none 0 0), (.slice none 0 0)] 35) := ⟨_, rfl⟩
       rw [← hWD]
       have hD : WD.heap[(WB).heap.size]? = some ((.cells #[.int .i64 0, .int .i64 0, (.string ⟨#[]⟩), (.slice none 0 0), (.slice none 0 0), (.slice none 0 0)] 35) : Obj) := by rw [hWD]; exact heap_alloc_new _ _
       have hsD : Step [] id id WB WD := by rw [hWD]; exact Step.alloc _
       have hDn := hs.size
       have hs := hs.tail hsD
       clear hWD
       refine hK.out _ _ ?_ (fun hHeld => ?_)
       ·exact hall.out _ hs
       clear hK K
       have hfar := hRA.far (Nat.le_refl _)
       have hRA := hRA.on hsD
       have hB := hsD.at hB (by simp)
       refine wpAnyH_ready (rs := [8]) (by kernel_rfl) (by simp) ?_
       refine AllReadyH.cons (o := _) rfl (fun K hK => ?_) AllReadyH.nil
       refine wp_app_one (.tmp 146) (.tmp 148) (by rfl) (by rfl) (by rfl) hs hRA hB rfl honesX.out (by omega) ?_
       intro adC cC WC hsC hs hRC atC
       refine hK.out _ _ ?_ (fun hHeld => ?_)
       ·exact hall.out _ hs
       clear hK K
       refine tkH 9 ?_ rfl (by kernel_rfl) (fun _ _ _ h => h) ?_ hHeld ?_
       rotate_left
       ·intro w' hSw; (try dsimp only at hSw); go_simp
        all_goals (with_reducible rfl)
       simp only [zP, zO, zA, zB, zC, zD, zE, zF]
       have hfar2 : (Value.slice adC (m + 1) cC).ownBlock ≠ some (WB).heap.size := fun e => by
        have hl := lt_of_block hD
        rcases atC with h | h
        ·exact hfar (by rw [← h]; exact e)
        ·rw [h] at e; injection e with e; omega
       have hD := hsC.at hD (by simpa using hfar)
       have hDl := lt_of_block hD
       obtain ⟨z0, z1, z2, z3, z4, z5⟩ := cells6A hD
       have fz := free_blk hD
       refine wpAnyH_ready (rs := [11]) (by kernel_rfl) (by simp) ?_
       refine AllReadyH.cons (o := _) rfl (fun K hK => ?_) AllReadyH.nil
       go_simp
       obtain ⟨WF, hWF, hX, hs, hRF⟩ := laid_z hD hDn hs hRC hfar2 (.int .i64 7) (.int .i64 0) (.string ⟨#[]⟩) (.slice none 0 0) (.slice none 0 0) (.slice adC (m + 1) cC)
       change K _ (set6 WC (WB).heap.size (.int .i64 7) (.int .i64 0) (.string ⟨#[]⟩) (.slice none 0 0) (.slice none 0 0) (.slice adC (m + 1) cC))
       rw [← hWF]
       refine hK.out _ _ ?_ (fun hHeld => ?_)
       ·exact hall.out _ hs
       clear hK K
       refine wpAnyH_done (by kernel_rfl) ?_ _
       exact ⟨(WB).heap.size, adC, cC, .pointer (some ⟨M, 0, none⟩), .pointer (some ⟨M, 0, none⟩), .pointer (some ⟨M, 2, none⟩), .pointer (some ⟨M, 7, none⟩), .slice la0 m lc0, .slice adA m cA, .agg #[.int .i64 k, .int .i64 n, .string s, .slice ba bn bc, .slice fa fn fc, .slice la ln lc], .slice (some ⟨(WA).heap.size, 0, none⟩) 1 1, .slice adC (m + 1) cC, .agg #[.int .i64 7, .int .i64 0, (.string ⟨#[]⟩), (.slice none 0 0), (.slice none 0 0), .slice adC (m + 1) cC], by simp only [zP, zD, zE, zF], hX, hRF, hs⟩
     ·go_simp
      obtain ⟨WD, hWD⟩ : ∃ X, X = (WA).alloc (.cells #[.int .i64 0, .int .i64 0, (.string ⟨#[]⟩), (.slice none 0 0), (.slice none 0 0), (.slice none 0 0)] 35) := ⟨_, rfl⟩
      rw [← hWD]
      have hD : WD.heap[(WA).heap.size]? = some ((.cells #[.int .i64 0, .int .i64 0, (.string ⟨#[]⟩), (.slice none 0 0), (.slice none 0 0), (.slice none 0 0)] 35) : Obj) := by rw [hWD]; exact heap_alloc_new _ _
      have hsD : Step [] id id WA WD := by rw [hWD]; exact Step.alloc _
      have hDn := hs.size
      have hs := hs.tail hsD
      clear hWD
      refine hK.out _ _ ?_ (fun hHeld => ?_)
      ·exact hall.out _ hs
      clear hK K
      have hfar := hRA.far (Nat.le_refl _)
      have hRA := hRA.on hsD
      refine wpAnyH_ready (rs := [7]) (by kernel_rfl) (by simp) ?_
      refine AllReadyH.cons (o := _) rfl (fun K hK => ?_) AllReadyH.nil
      go_simp
      obtain ⟨WB, hWB⟩ : ∃ X, X = (WD).alloc (.cells #[.int .i64 k, .int .i64 n, .string s, .slice ba bn bc, .slice fa fn fc, .slice la ln lc] 35) := ⟨_, rfl⟩
      rw [← hWB]
      have hB : WB.heap[(WD).heap.size]? = some (.cells #[.int .i64 k, .int .i64 n, .string s, .slice ba bn bc, .slice fa fn fc, .slice la ln lc] 35 (0, 0)) := by rw [hWB]; exact heap_alloc_new _ _
      have hsB : Step [] id id WD WB := by rw [hWB]; exact Step.alloc _
      have hs := hs.tail hsB
      clear hWB
      refine hK.out _ _ ?_ (fun hHeld => ?_)
      ·exact hall.out _ hs
      clear hK K
      have hRA := hRA.on hsB
      have hD := hsB.at hD (by simp)
      refine wpAnyH_ready (rs := [8]) (by kernel_rfl) (by simp) ?_
      refine AllReadyH.cons (o := _) rfl (fun K hK => ?_) AllReadyH.nil
      refine wp_app_one (.tmp 146) (.tmp 148) (by rfl) (by rfl) (by rfl) hs hRA hB rfl honesX.out (by omega) ?_
      intro adC cC WC hsC hs hRC atC
      refine hK.out _ _ ?_ (fun hHeld => ?_)
      ·exact hall.out _ hs
      clear hK K
      refine tkH 9 ?_ rfl (by kernel_rfl) (fun _ _ _ h => h) ?_ hHeld ?_
      rotate_left
      ·intro w' hSw; (try dsimp only at hSw); go_simp
       all_goals (with_reducible rfl)
      simp only [zP, zO, zA, zB, zC, zD, zE, zF]
      have hfar2 : (Value.slice adC (m + 1) cC).ownBlock ≠ some (WA).heap.size := fun e => by
       have hl := lt_of_block hD
       rcases atC with h | h
       ·exact hfar (by rw [← h]; exact e)
       ·rw [h] at e; injection e with e; omega
      have hD := hsC.at hD (by simpa using hfar)
      have hDl := lt_of_block hD
      obtain ⟨z0, z1, z2, z3, z4, z5⟩ := cells6A hD
      have fz := free_blk hD
      refine wpAnyH_ready (rs := [11]) (by kernel_rfl) (by simp) ?_
      refine AllReadyH.cons (o := _) rfl (fun K hK => ?_) AllReadyH.nil
      go_simp
      obtain ⟨WF, hWF, hX, hs, hRF⟩ := laid_z hD hDn hs hRC hfar2 (.int .i64 7) (.int .i64 0) (.string ⟨#[]⟩) (.slice none 0 0) (.slice none 0 0) (.slice adC (m + 1) cC)
      change K _ (set6 WC (WA).heap.size (.int .i64 7) (.int .i64 0) (.string ⟨#[]⟩) (.slice none 0 0) (.slice none 0 0) (.slice adC (m + 1) cC))
      rw [← hWF]
      refine hK.out _ _ ?_ (fun hHeld => ?_)
      ·exact hall.out _ hs
      clear hK K
      refine wpAnyH_done (by kernel_rfl) ?_ _
      exact ⟨(WA).heap.size, adC, cC, .pointer (some ⟨M, 0, none⟩), .pointer (some ⟨M, 0, none⟩), .pointer (some ⟨M, 2, none⟩), .pointer (some ⟨M, 7, none⟩), .slice la0 m lc0, .slice adA m cA, .agg #[.int .i64 k, .int .i64 n, .string s, .slice ba bn bc, .slice fa fn fc, .slice la ln lc], .slice (some ⟨(WD).heap.size, 0, none⟩) 1 1, .slice adC (m + 1) cC, .agg #[.int .i64 7, .int .i64 0, (.string ⟨#[]⟩), (.slice none 0 0), (.slice none 0 0), .slice adC (m + 1) cC], by simp only [zP, zD, zE, zF], hX, hRF, hs⟩
    ·go_simp
     obtain ⟨WB, hWB⟩ : ∃ X, X = (WS).alloc (.cells #[.int .i64 k, .int .i64 n, .string s, .slice ba bn bc, .slice fa fn fc, .slice la ln lc] 35) := ⟨_, rfl⟩
     rw [← hWB]
     have hB : WB.heap[(WS).heap.size]? = some (.cells #[.int .i64 k, .int .i64 n, .string s, .slice ba bn bc, .slice fa fn fc, .slice la ln lc] 35 (0, 0)) := by rw [hWB]; exact heap_alloc_new _ _
     have hsB : Step [] id id WS WB := by rw [hWB]; exact Step.alloc _
     have hs := hs.tail hsB
     clear hWB
     refine hK.out _ _ ?_ (fun hHeld => ?_)
     ·exact hall.out _ hs
     clear hK K
     refine wpAnyH_ready (rs := [5, 10]) (by kernel_rfl) (by simp) ?_
     refine AllReadyH.cons (o := _) rfl (fun K hK => ?_) (AllReadyH.cons (o := _) rfl (fun K hK => ?_) AllReadyH.nil)
     ·refine wp_app_nil (.tmp 145) (by rfl) (by rfl) hs (hsrcH.out.step (hsW.out.tail hs)) hones.out (by omega) ?_
      intro adA cA WA hsA hRA atA
      have hs := hs.tail hsA
      refine hK.out _ _ ?_ (fun hHeld => ?_)
      ·exact hall.out _ hs
      clear hK K
      have hB := hsA.at hB (by simp)
      refine wpAnyH_ready (rs := [8, 10]) (by kernel_rfl) (by simp) ?_
      refine AllReadyH.cons (o := _) rfl (fun K hK => ?_) (AllReadyH.cons (o := _) rfl (fun K hK => ?_) AllReadyH.nil)
      ·refine wp_app_one (.tmp 146) (.tmp 148) (by rfl) (by rfl) (by rfl) hs hRA hB rfl honesX.out (by omega) ?_
       intro adC cC WC hsC hs hRC atC
       refine hK.out _ _ ?_ (fun hHeld => ?_)
       ·exact hall.out _ hs
       clear hK K
       refine tkH 9 ?_ rfl (by kernel_rfl) (fun _ _ _ h => h) ?_ hHeld ?_
       rotate_left
       ·intro w' hSw; (try dsimp only at hSw); go_simp
        all_goals (with_reducible rfl)
       simp only [zP, zO, zA, zB, zC, zD, zE, zF]
       refine wpAnyH_ready (rs := [10]) (by kernel_rfl) (by simp) ?_
       refine AllReadyH.cons (o := _) rfl (fun K hK => ?_) AllReadyH.nil
       go_simp
       obtain ⟨WD, hWD⟩ : ∃ X, X = (WC).alloc (.cells #[.int .i64 0, .int .i64 0, (.string ⟨#[]⟩), (.slice none 0 0), (.slice none 0 0), (.slice none 0 0)] 35) := ⟨_, rfl⟩
       rw [← hWD]
       have hD : WD.heap[(WC).heap.size]? = some ((.cells #[.int .i64 0, .int .i64 0, (.string ⟨#[]⟩), (.slice none 0 0), (.slice none 0 0), (.slice none 0 0)] 35) : Obj) := by rw [hWD]; exact heap_alloc_new _ _
       have hsD : Step [] id id WC WD := by rw [hWD]; exact Step.alloc _
       have hDn := hs.size
       have hs := hs.tail hsD
       clear hWD
       refine hK.out _ _ ?_ (fun hHeld => ?_)
       ·exact hall.out _ hs
       clear hK K
       have hfar := hRC.far (Nat.le_refl _)
       have hRC := hRC.on hsD
       have hDl := lt_of_block hD
       obtain ⟨z0, z1, z2, z3, z4, z5⟩ := cells6A hD
       have fz := free_blk hD
       refine wpAnyH_ready (rs := [11]) (by kernel_rfl) (by simp) ?_
       refine AllReadyH.cons (o := _) rfl (fun K hK => ?_) AllReadyH.nil
       go_simp
       obtain ⟨WF, hWF, hX, hs, hRF⟩ := laid_z hD hDn hs hRC hfar (.int .i64 7) (.int .i64 0) (.string ⟨#[]⟩) (.slice none 0 0) (.slice none 0 0) (.slice adC (m + 1) cC)
       change K _ (set6 WD (WC).heap.size (.int .i64 7) (.int .i64 0) (.string ⟨#[]⟩) (.slice none 0 0) (.slice none 0 0) (.slice adC (m + 1) cC))
       rw [← hWF]
       refine hK.out _ _ ?_ (fun hHeld => ?_)
       ·exact hall.out _ hs
       clear hK K
       refine wpAnyH_done (by kernel_rfl) ?_ _
       exact ⟨(WC).heap.size, adC, cC, .pointer (some ⟨M, 0, none⟩), .pointer (some ⟨M, 0, none⟩), .pointer (some ⟨M, 2, none⟩), .pointer (some ⟨M, 7, none⟩), .slice la0 m lc0, .slice adA m cA, .agg #[.int .i64 k, .int .i64 n, .string s, .slice ba bn bc, .slice fa fn fc, .slice la ln lc], .slice (some ⟨(WS).heap.size, 0, none⟩) 1 1, .slice adC (m + 1) cC, .agg #[.int .i64 7, .int .i64 0, (.string ⟨#[]⟩), (.slice none 0 0), (.slice none 0 0), .slice adC (m + 1) cC], by simp only [zP, zD, zE, zF], hX, hRF, hs⟩
      ·go_simp
       obtain ⟨WD, hWD⟩ : ∃ X, X = (WA).alloc (.cells #[.int .i64 0, .int .i64 0, (.string ⟨#[]⟩), (.slice none 0 0), (.slice none 0 0), (.slice none 0 0)] 35) := ⟨_, rfl⟩
       rw [← hWD]
       have hD : WD.heap[(WA).heap.size]? = some ((.cells #[.int .i64 0, .int .i64 0, (.string ⟨#[]⟩), (.slice none 0 0), (.slice none 0 0), (.slice none 0 0)] 35) : Obj) := by rw [hWD]; exact heap_alloc_new _ _
       have hsD : Step [] id id WA WD := by rw [hWD]; exact Step.alloc _
       have hDn := hs.size
       have hs := hs.tail hsD
       clear hWD
       refine hK.out _ _ ?_ (fun hHeld => ?_)
       ·exact hall.out _ hs
       clear hK K
       have hfar := hRA.far (Nat.le_refl _)
       have hRA := hRA.on hsD
       have hB := hsD.at hB (by simp)
       refine wpAnyH_ready (rs := [8]) (by kernel_rfl) (by simp) ?_
       refine AllReadyH.cons (o := _) rfl (fun K hK => ?_) AllReadyH.nil
       refine wp_app_one (.tmp 146) (.tmp 148) (by rfl) (by rfl) (by rfl) hs hRA hB rfl honesX.out (by omega) ?_
       intro adC cC WC hsC hs hRC atC
       refine hK.out _ _ ?_ (fun hHeld => ?_)
       ·exact hall.out _ hs
       clear hK K
       refine tkH 9 ?_ rfl (by kernel_rfl) (fun _ _ _ h => h) ?_ hHeld ?_
       rotate_left
       ·intro w' hSw; (try dsimp only at hSw); go_simp
        all_goals (with_reducible rfl)
       simp only [zP, zO, zA, zB, zC, zD, zE, zF]
       have hfar2 : (Value.slice adC (m + 1) cC).ownBlock ≠ some (WA).heap.size := fun e => by
        have hl := lt_of_block hD
        rcases atC with h | h
        ·exact hfar (by rw [← h]; exact e)
        ·rw [h] at e; injection e with e; omega
       have hD := hsC.at hD (by simpa using hfar)
       have hDl := lt_of_block hD
       obtain ⟨z0, z1, z2, z3, z4, z5⟩ := cells6A hD
       have fz := free_blk hD
       refine wpAnyH_ready (rs := [11]) (by kernel_rfl) (by simp) ?_
       refine AllReadyH.cons (o := _) rfl (fun K hK => ?_) AllReadyH.nil
       go_simp
       obtain ⟨WF, hWF, hX, hs, hRF⟩ := laid_z hD hDn hs hRC hfar2 (.int .i64 7) (.int .i64 0) (.string ⟨#[]⟩) (.slice none 0 0) (.slice none 0 0) (.slice adC (m + 1) cC)
       change K _ (set6 WC (WA).heap.size (.int .i64 7) (.int .i64 0) (.string ⟨#[]⟩) (.slice none 0 0) (.slice none 0 0) (.slice adC (m + 1) cC))
       rw [← hWF]
       refine hK.out _ _ ?_ (fun hHeld => ?_)
       ·exact hall.out _ hs
       clear hK K
       refine wpAnyH_done (by kernel_rfl) ?_ _
       exact ⟨(WA).heap.size, adC, cC, .pointer (some ⟨M, 0, none⟩), .pointer (some ⟨M, 0, none⟩), .pointer (some ⟨M, 2, none⟩), .pointer (some ⟨M, 7, none⟩), .slice la0 m lc0, .slice adA m cA, .agg #[.int .i64 k, .int .i64 n, .string s, .slice ba bn bc, .slice fa fn fc, .slice la ln lc], .slice (some ⟨(WS).heap.size, 0, none⟩) 1 1, .slice adC (m + 1) cC, .agg #[.int .i64 7, .int .i64 0, (.string ⟨#[]⟩), (.slice none 0 0), (.slice none 0 0), .slice adC (m + 1) cC], by simp only [zP, zD, zE, zF], hX, hRF, hs⟩
     ·go_simp
      obtain ⟨WD, hWD⟩ : ∃ X, X = (WB).alloc (.cells #[.int .i64 0, .int .i64 0, (.string ⟨#[]⟩), (.slice none 0 0), (.slice none 0 0), (.slice none 0 0)] 35) := ⟨_, rfl⟩
      rw [← hWD]
      have hD : WD.heap[(WB).heap.size]? = some ((.cells #[.int .i64 0, .int .i64 0, (.string ⟨#[]⟩), (.slice none 0 0), (.slice none 0 0), (.slice none 0 0)] 35) : Obj) := by rw [hWD]; exact heap_alloc_new _ _
      have hsD : Step [] id id WB WD := by rw [hWD]; exact Step.alloc _
      have hDn := hs.size
      have hs := hs.tail hsD
      clear hWD
      refine hK.out _ _ ?_ (fun hHeld => ?_)
      ·exact hall.out _ hs
      clear hK K
      have hB := hsD.at hB (by simp)
      refine wpAnyH_ready (rs := [5]) (by kernel_rfl) (by simp) ?_
      refine AllReadyH.cons (o := _) rfl (fun K hK => ?_) AllReadyH.nil
      refine wp_app_nil (.tmp 145) (by rfl) (by rfl) hs (hsrcH.out.step (hsW.out.tail hs)) hones.out (by omega) ?_
      intro adA cA WA hsA hRA atA
      have hs := hs.tail hsA
      refine hK.out _ _ ?_ (fun hHeld => ?_)
      ·exact hall.out _ hs
      clear hK K
      have hfar : (Value.slice adA m cA).ownBlock ≠ some (WB).heap.size := fun e => by
       have hl := lt_of_block hD
       rcases atA with h | h
       ·rw [h] at e; cases e
       ·rw [h] at e; injection e with e; omega
      have hD := hsA.at hD (by simp)
      have hB := hsA.at hB (by simp)
      refine wpAnyH_ready (rs := [8]) (by kernel_rfl) (by simp) ?_
      refine AllReadyH.cons (o := _) rfl (fun K hK => ?_) AllReadyH.nil
      refine wp_app_one (.tmp 146) (.tmp 148) (by rfl) (by rfl) (by rfl) hs hRA hB rfl honesX.out (by omega) ?_
      intro adC cC WC hsC hs hRC atC
      refine hK.out _ _ ?_ (fun hHeld => ?_)
      ·exact hall.out _ hs
      clear hK K
      refine tkH 9 ?_ rfl (by kernel_rfl) (fun _ _ _ h => h) ?_ hHeld ?_
      rotate_left
      ·intro w' hSw; (try dsimp only at hSw); go_simp
       all_goals (with_reducible rfl)
      simp only [zP, zO, zA, zB, zC, zD, zE, zF]
      have hfar2 : (Value.slice adC (m + 1) cC).ownBlock ≠ some (WB).heap.size := fun e => by
       have hl := lt_of_block hD
       rcases atC with h | h
       ·exact hfar (by rw [← h]; exact e)
       ·rw [h] at e; injection e with e; omega
      have hD := hsC.at hD (by simpa using hfar)
      have hDl := lt_of_block hD
      obtain ⟨z0, z1, z2, z3, z4, z5⟩ := cells6A hD
      have fz := free_blk hD
      refine wpAnyH_ready (rs := [11]) (by kernel_rfl) (by simp) ?_
      refine AllReadyH.cons (o := _) rfl (fun K hK => ?_) AllReadyH.nil
      go_simp
      obtain ⟨WF, hWF, hX, hs, hRF⟩ := laid_z hD hDn hs hRC hfar2 (.int .i64 7) (.int .i64 0) (.string ⟨#[]⟩) (.slice none 0 0) (.slice none 0 0) (.slice adC (m + 1) cC)
      change K _ (set6 WC (WB).heap.size (.int .i64 7) (.int .i64 0) (.string ⟨#[]⟩) (.slice none 0 0) (.slice none 0 0) (.slice adC (m + 1) cC))
      rw [← hWF]
      refine hK.out _ _ ?_ (fun hHeld => ?_)
      ·exact hall.out _ hs
      clear hK K
      refine wpAnyH_done (by kernel_rfl) ?_ _
      exact ⟨(WB).heap.size, adC, cC, .pointer (some ⟨M, 0, none⟩), .pointer (some ⟨M, 0, none⟩), .pointer (some ⟨M, 2, none⟩), .pointer (some ⟨M, 7, none⟩), .slice la0 m lc0, .slice adA m cA, .agg #[.int .i64 k, .int .i64 n, .string s, .slice ba bn bc, .slice fa fn fc, .slice la ln lc], .slice (some ⟨(WS).heap.size, 0, none⟩) 1 1, .slice adC (m + 1) cC, .agg #[.int .i64 7, .int .i64 0, (.string ⟨#[]⟩), (.slice none 0 0), (.slice none 0 0), .slice adC (m + 1) cC], by simp only [zP, zD, zE, zF], hX, hRF, hs⟩
    ·go_simp
     obtain ⟨WD, hWD⟩ : ∃ X, X = (WS).alloc (.cells #[.int .i64 0, .int .i64 0, (.string ⟨#[]⟩), (.slice none 0 0), (.slice none 0 0), (.slice none 0 0)] 35) := ⟨_, rfl⟩
     rw [← hWD]
     have hD : WD.heap[(WS).heap.size]? = some ((.cells #[.int .i64 0, .int .i64 0, (.string ⟨#[]⟩), (.slice none 0 0), (.slice none 0 0), (.slice none 0 0)] 35) : Obj) := by rw [hWD]; exact heap_alloc_new _ _
     have hsD : Step [] id id WS WD := by rw [hWD]; exact Step.alloc _
     have hDn := hs.size
     have hs := hs.tail hsD
     clear hWD
     refine hK.out _ _ ?_ (fun hHeld => ?_)
     ·exact hall.out _ hs
     clear hK K
     refine wpAnyH_ready (rs := [5, 7]) (by kernel_rfl) (by simp) ?_
     refine AllReadyH.cons (o := _) rfl (fun K hK => ?_) (AllReadyH.cons (o := _) rfl (fun K hK => ?_) AllReadyH.nil)
     ·refine wp_app_nil (.tmp 145) (by rfl) (by rfl) hs (hsrcH.out.step (hsW.out.tail hs)) hones.out (by omega) ?_
      intro adA cA WA hsA hRA atA
      have hs := hs.tail hsA
      refine hK.out _ _ ?_ (fun hHeld => ?_)
      ·exact hall.out _ hs
      clear hK K
      have hfar : (Value.slice adA m cA).ownBlock ≠ some (WS).heap.size := fun e => by
       have hl := lt_of_block hD
       rcases atA with h | h
       ·rw [h] at e; cases e
       ·rw [h] at e; injection e with e; omega
      have hD := hsA.at hD (by simp)
      refine wpAnyH_ready (rs := [7]) (by kernel_rfl) (by simp) ?_
      refine AllReadyH.cons (o := _) rfl (fun K hK => ?_) AllReadyH.nil
      go_simp
      obtain ⟨WB, hWB⟩ : ∃ X, X = (WA).alloc (.cells #[.int .i64 k, .int .i64 n, .string s, .slice ba bn bc, .slice fa fn fc, .slice la ln lc] 35) := ⟨_, rfl⟩
      rw [← hWB]
      have hB : WB.heap[(WA).heap.size]? = some (.cells #[.int .i64 k, .int .i64 n, .string s, .slice ba bn bc, .slice fa fn fc, .slice la ln lc] 35 (0, 0)) := by rw [hWB]; exact heap_alloc_new _ _
      have hsB : Step [] id id WA WB := by rw [hWB]; exact Step.alloc _
      have hs := hs.tail hsB
      clear hWB
      refine hK.out _ _ ?_ (fun hHeld => ?_)
      ·exact hall.out _ hs
      clear hK K
      have hRA := hRA.on hsB
      have hD := hsB.at hD (by simp)
      refine wpAnyH_ready (rs := [8]) (by kernel_rfl) (by simp) ?_
      refine AllReadyH.cons (o := _) rfl (fun K hK => ?_) AllReadyH.nil
      refine wp_app_one (.tmp 146) (.tmp 148) (by rfl) (by rfl) (by rfl) hs hRA hB rfl honesX.out (by omega) ?_
      intro adC cC WC hsC hs hRC atC
      refine hK.out _ _ ?_ (fun hHeld => ?_)
      ·exact hall.out _ hs
      clear hK K
      refine tkH 9 ?_ rfl (by kernel_rfl) (fun _ _ _ h => h) ?_ hHeld ?_
      rotate_left
      ·intro w' hSw; (try dsimp only at hSw); go_simp
       all_goals (with_reducible rfl)
      simp only [zP, zO, zA, zB, zC, zD, zE, zF]
      have hfar2 : (Value.slice adC (m + 1) cC).ownBlock ≠ some (WS).heap.size := fun e => by
       have hl := lt_of_block hD
       rcases atC with h | h
       ·exact hfar (by rw [← h]; exact e)
       ·rw [h] at e; injection e with e; omega
      have hD := hsC.at hD (by simpa using hfar)
      have hDl := lt_of_block hD
      obtain ⟨z0, z1, z2, z3, z4, z5⟩ := cells6A hD
      have fz := free_blk hD
      refine wpAnyH_ready (rs := [11]) (by kernel_rfl) (by simp) ?_
      refine AllReadyH.cons (o := _) rfl (fun K hK => ?_) AllReadyH.nil
      go_simp
      obtain ⟨WF, hWF, hX, hs, hRF⟩ := laid_z hD hDn hs hRC hfar2 (.int .i64 7) (.int .i64 0) (.string ⟨#[]⟩) (.slice none 0 0) (.slice none 0 0) (.slice adC (m + 1) cC)
      change K _ (set6 WC (WS).heap.size (.int .i64 7) (.int .i64 0) (.string ⟨#[]⟩) (.slice none 0 0) (.slice none 0 0) (.slice adC (m + 1) cC))
      rw [← hWF]
      refine hK.out _ _ ?_ (fun hHeld => ?_)
      ·exact hall.out _ hs
      clear hK K
      refine wpAnyH_done (by kernel_rfl) ?_ _
      exact ⟨(WS).heap.size, adC, cC, .pointer (some ⟨M, 0, none⟩), .pointer (some ⟨M, 0, none⟩), .pointer (some ⟨M, 2, none⟩), .pointer (some ⟨M, 7, none⟩), .slice la0 m lc0, .slice adA m cA, .agg #[.int .i64 k, .int .i64 n, .string s, .slice ba bn bc, .slice fa fn fc, .slice la ln lc], .slice (some ⟨(WA).heap.size, 0, none⟩) 1 1, .slice adC (m + 1) cC, .agg #[.int .i64 7, .int .i64 0, (.string ⟨#[]⟩), (.slice none 0 0), (.slice none 0 0), .slice adC (m + 1) cC], by simp only [zP, zD, zE, zF], hX, hRF, hs⟩
     ·go_simp
      obtain ⟨WB, hWB⟩ : ∃ X, X = (WD).alloc (.cells #[.int .i64 k, .int .i64 n, .string s, .slice ba bn bc, .slice fa fn fc, .slice la ln lc] 35) := ⟨_, rfl⟩
      rw [← hWB]
      have hB : WB.heap[(WD).heap.size]? = some (.cells #[.int .i64 k, .int .i64 n, .string s, .slice ba bn bc, .slice fa fn fc, .slice la ln lc] 35 (0, 0)) := by rw [hWB]; exact heap_alloc_new _ _
      have hsB : Step [] id id WD WB := by rw [hWB]; exact Step.alloc _
      have hs := hs.tail hsB
      clear hWB
      refine hK.out _ _ ?_ (fun hHeld => ?_)
      ·exact hall.out _ hs
      clear hK K
      have hD := hsB.at hD (by simp)
      refine wpAnyH_ready (rs := [5]) (by kernel_rfl) (by simp) ?_
      refine AllReadyH.cons (o := _) rfl (fun K hK => ?_) AllReadyH.nil
      refine wp_app_nil (.tmp 145) (by rfl) (by rfl) hs (hsrcH.out.step (hsW.out.tail hs)) hones.out (by omega) ?_
      intro adA cA WA hsA hRA atA
      have hs := hs.tail hsA
      refine hK.out _ _ ?_ (fun hHeld => ?_)
      ·exact hall.out _ hs
      clear hK K
      have hfar : (Value.slice adA m cA).ownBlock ≠ some (WS).heap.size := fun e => by
       have hl := lt_of_block hD
       rcases atA with h | h
       ·rw [h] at e; cases e
       ·rw [h] at e; injection e with e; omega
      have hD := hsA.at hD (by simp)
      have hB := hsA.at hB (by simp)
      refine wpAnyH_ready (rs := [8]) (by kernel_rfl) (by simp) ?_
      refine AllReadyH.cons (o := _) rfl (fun K hK => ?_) AllReadyH.nil
      refine wp_app_one (.tmp 146) (.tmp 148) (by rfl) (by rfl) (by rfl) hs hRA hB rfl honesX.out (by omega) ?_
      intro adC cC WC hsC hs hRC atC
      refine hK.out _ _ ?_ (fun hHeld => ?_)
      ·exact hall.out _ hs
      clear hK K
      refine tkH 9 ?_ rfl (by kernel_rfl) (fun _ _ _ h => h) ?_ hHeld ?_
      rotate_left
      ·intro w' hSw; (try dsimp only at hSw); go_simp
       all_goals (with_reducible rfl)
      simp only [zP, zO, zA, zB, zC, zD, zE, zF]
      have hfar2 : (Value.slice adC (m + 1) cC).ownBlock ≠ some (WS).heap.size := fun e => by
       have hl := lt_of_block hD
       rcases atC with h | h
       ·exact hfar (by rw [← h]; exact e)
       ·rw [h] at e; injection e with e; omega
      have hD := hsC.at hD (by simpa using hfar)
      have hDl := lt_of_block hD
      obtain ⟨z0, z1, z2, z3, z4, z5⟩ := cells6A hD
      have fz := free_blk hD
      refine wpAnyH_ready (rs := [11]) (by kernel_rfl) (by simp) ?_
      refine AllReadyH.cons (o := _) rfl (fun K hK => ?_) AllReadyH.nil
      go_simp
      obtain ⟨WF, hWF, hX, hs, hRF⟩ := laid_z hD hDn hs hRC hfar2 (.int .i64 7) (.int .i64 0) (.string ⟨#[]⟩) (.slice none 0 0) (.slice none 0 0) (.slice adC (m + 1) cC)
      change K _ (set6 WC (WS).heap.size (.int .i64 7) (.int .i64 0) (.string ⟨#[]⟩) (.slice none 0 0) (.slice none 0 0) (.slice adC (m + 1) cC))
      rw [← hWF]
      refine hK.out _ _ ?_ (fun hHeld => ?_)
      ·exact hall.out _ hs
      clear hK K
      refine wpAnyH_done (by kernel_rfl) ?_ _
      exact ⟨(WS).heap.size, adC, cC, .pointer (some ⟨M, 0, none⟩), .pointer (some ⟨M, 0, none⟩), .pointer (some ⟨M, 2, none⟩), .pointer (some ⟨M, 7, none⟩), .slice la0 m lc0, .slice adA m cA, .agg #[.int .i64 k, .int .i64 n, .string s, .slice ba bn bc, .slice fa fn fc, .slice la ln lc], .slice (some ⟨(WD).heap.size, 0, none⟩) 1 1, .slice adC (m + 1) cC, .agg #[.int .i64 7, .int .i64 0, (.string ⟨#[]⟩), (.slice none 0 0), (.slice none 0 0), .slice adC (m + 1) cC], by simp only [zP, zD, zE, zF], hX, hRF, hs⟩
   intro ex a' w' hQ
   cases ex <;> try exact hQ.elim
   obtain ⟨Z, adC, cC, u1, u2, u3, u4, u5, u6, u7, u8, u9, u10, rfl, hX, hRF, hs⟩ := hQ
   simp only [zP, zD, zE, zF]
   obtain ⟨WF, hWF⟩ : ∃ X, X = w' := ⟨_, rfl⟩
   rw [← hWF] at hX hRF hs ⊢
   clear hWF c0 c1 c2 c3 c4 c5 c6 c7 b0 b1 b2 b3 b4 b5 fM hlM hlB
   have hM6 := hs.at hMH.out (by simp)
   have c1 := cell_blk hM6 (i := 1) rfl
   have c2 := cell_blk hM6 (i := 2) rfl
   have c3 := cell_blk hM6 (i := 3) rfl
   have c4 := cell_blk hM6 (i := 4) rfl
   have c5 := cell_blk hM6 (i := 5) rfl
   have c6 := cell_blk hM6 (i := 6) rfl
   have c7 := cell_blk hM6 (i := 7) rfl
   have fM := free_blk hM6
   have lM := lt_of_block hM6
   obtain ⟨x0, x1, x2, x3, x4, x5⟩ := cells6A hX
   have lX := lt_of_block hX
   have hvF := hmore.out WF adC cC (hsW.out.tail hs) hRF.row (fun k hk => Nat.le_trans hsW.out.size (hRF.new k hk))
   have hown := Lib.hid (ref_own hvF hqH.out)
   have hvFH := Lib.hid hvF
   have hsH := Lib.hid (hsW.out.tail hs)
   have hMXH := Lib.hid hM6
   have hXH := Lib.hid hX
   clear hvF hs hRF hM6 hX
   go_wp2_with fail
   refine hown.out.mono ?_
   rintro e w7 ⟨rfl, hs7⟩
   clear c1 c2 c3 c4 c5 c6 c7 fM lM x0 x1 x2 x3 x4 x5 lX
   have hM7 := hs7.at hMXH.out (by simp)
   have hX7 := hs7.at hXH.out (by simp)
   have c1 := cell_blk hM7 (i := 1) rfl
   have c2 := cell_blk hM7 (i := 2) rfl
   have c3 := cell_blk hM7 (i := 3) rfl
   have c4 := cell_blk hM7 (i := 4) rfl
   have c5 := cell_blk hM7 (i := 5) rfl
   have c6 := cell_blk hM7 (i := 6) rfl
   have c7 := cell_blk hM7 (i := 7) rfl
   have fM := free_blk hM7
   have lM := lt_of_block hM7
   obtain ⟨x0, x1, x2, x3, x4, x5⟩ := cells6A hX7
   have lX := lt_of_block hX7
   have hM7H := Lib.hid hM7
   have hs7H := Lib.hid (hsH.out.tail hs7)
   have hs76H := Lib.hid hs7
   clear hs7 hM7 hX7
   by_cases ho : ownV (listV (l ++ [x])) < 0
   ·have hoR : ownR (listV (l ++ [x])) = -1 := by unfold ownR; rw [if_pos ho]
    rw [hoR]
    have hoH := Lib.hid ho
    clear ho hoR
    go_wp2_with fail
    go_ret
    (try (unfold RSet; rw [if_neg (by rw [hanyH.out]; simp)]))
    unfold RPush
    rw [if_pos hoH.out]
    exact ⟨rfl, hM7H.out, hs7H.out.mono (fun _ h => by cases h)⟩
   ·have hoR : ownR (listV (l ++ [x])) = ownV (listV (l ++ [x])) := by unfold ownR; rw [if_neg ho]
    rw [hoR]
    have hoH := Lib.hid ho
    obtain ⟨O, hO⟩ : ∃ O, O = ownV (listV (l ++ [x])) := ⟨_, rfl⟩
    rw [← hO] at ho ⊢
    have hob : decide (O < 0) = false := decide_eq_false ho
    clear ho hO hoR
    go_wp2_with fail
    go_ret
    (try (unfold RSet; rw [if_neg (by rw [hanyH.out]; simp)]))
    unfold RPush
    rw [if_neg (by have := hoH.out; omega)]
    have hend := value_ends (u0 := .int .i64 7) (u1 := .int .i64 0) (u2 := (.string ⟨#[]⟩)) (u3 := (.slice none 0 0)) (u4 := (.slice none 0 0)) (u5 := .slice adC (m + 1) cC) hM7H.out hs7H.out
    refine ⟨_, _, _, _, _, _, hend, (hvFH.out.keep (w' := w7) (fun _ h => h) (fun k hk hl => (hs76H.out.keep k hl (by simp)).2)).keep (fun _ h => h) (fun k hP hl => ?_)⟩
    obtain ⟨-, -, hst⟩ := hend
    exact set_far (by
     rcases hP with h | h
     ·exact hPM.out k h
     ·exact h.2)
/-- A set: what is there already is not taken again. -/
def RSet (P : Nat → Prop) (M : Nat) (N : Int) (l : List Val) (x : Val) (v0 v1 v2 v3 v4 v5 : Value) (w : World) (e : Ending) (w' : World) : Prop :=
 if l.any (fun y => cmpV y x == 0) then RAdd M 7 (N + 1) 0 v0 v1 v2 v3 v4 v5 w e w' else RPush P M 7 N (listV (l ++ [x])) v0 v1 v2 v3 v4 v5 w e w'
set_option maxRecDepth 100000 in
set_option maxHeartbeats 16000000 in
theorem radd_set (h : StR w M 7 N (.int .i64 k0) (.int .i64 n0) (.string s0) (.slice ba0 bn0 bc0) (.slice fa0 fn0 fc0) (.slice la0 m lc0)) (hN : 0 ≤ N ∧ N ≤ 1000000000) (hv : VIs P w (listV l) [.int .i64 k0, .int .i64 n0, .string s0, .slice ba0 bn0 bc0, .slice fa0 fn0 fc0, .slice la0 m lc0]) (hx : VIs P w x [.int .i64 k, .int .i64 n, .string s, .slice ba bn bc, .slice fa fn fc, .slice la ln lc]) (hPM : ∀ k, P k → k ≠ M) (hk : k ≠ 0) (hq : OwnQC (listV (l ++ [x])) 1) (hm : m ≤ 1000) :
  Calls Tryz.prog 13 #[.pointer (some ⟨M, 0, none⟩), .agg #[.int .i64 k, .int .i64 n, .string s, .slice ba bn bc, .slice fa fn fc, .slice la ln lc]] w (RSet P M N l x (.int .i64 k0) (.int .i64 n0) (.string s0) (.slice ba0 bn0 bc0) (.slice fa0 fn0 fc0) (.slice la0 m lc0) w) := by
 obtain ⟨W1, hW1⟩ : ∃ W1, W1 = w.alloc (.cells #[.int .i64 k, .int .i64 n, .string s, .slice ba bn bc, .slice fa fn fc, .slice la ln lc] 35) := ⟨_, rfl⟩
 have hs1 : Step [] id id w W1 := by rw [hW1]; exact Step.alloc _
 have hB : W1.heap[w.heap.size]? = some (.cells #[.int .i64 k, .int .i64 n, .string s, .slice ba bn bc, .slice fa fn fc, .slice la ln lc] 35 (0, 0)) := by rw [hW1]; exact heap_alloc_new w _
 have hM : StR W1 M 7 N (.int .i64 k0) (.int .i64 n0) (.string s0) (.slice ba0 bn0 bc0) (.slice fa0 fn0 fc0) (.slice la0 m lc0) := hs1.at h (by simp)
 have hMw := lt_of_block h
 have hMB : ¬ M = w.heap.size := by omega
 have hBM : ¬ w.heap.size = M := by omega
 obtain ⟨bv', fa', fc', la', lc', hvc, -, ⟨-, hvl, -, hvn⟩, -, ⟨-, -, -, hvs⟩, -, hvL⟩ := hv.cells
 have hsl : Value.slice la0 m lc0 = Value.slice la' (listV l).l.length lc' := by
  injection hvc with _ h
  injection h with _ h
  injection h with _ h
  injection h with _ h
  injection h with _ h
  injection h with h _
 injection hsl with e1 e2 e3
 subst e1 e3
 have hml : m = l.length := e2
 have hvL : LIs P w l la0 0 := hvL
 have hvl : l.length ≤ lc0 := hvl
 obtain ⟨xs, hsrc, hLR, hon⟩ := LIs.src hvL hvl hvn
 have hsrc : Src w 6 (.slice la0 m lc0) m xs := by rw [hml]; exact hsrc
 have hsrcH := Lib.hid hsrc
 have hones := Lib.hid hon
 have honesX := Lib.hid hx.ones
 have hmore := Lib.hid (fun (W : World) (ad : Option Addr) (c : Nat) (hs : Step [] id id w W) (hr : W.ownsRow 0 35 6 (.slice ad (m + 1) c) (m + 1) (xs ++ [.int .i64 k, .int .i64 n, .string s, .slice ba bn bc, .slice fa fn fc, .slice la ln lc])) (hn : ∀ k, (Value.slice ad (m + 1) c).ownBlock = some k → w.heap.size ≤ k) =>
  more_vis (M := M) hLR hx hml hs hr hn hMw (by omega))
 have hcm := Lib.hid (fun (j : Nat) (hj : j < l.length) => ref_compare l[j] x)
 have hqH := Lib.hid hq
 have hkb : (k == 0) = false := by rw [beq_eq_false_iff_ne]; exact hk
 have hPM := Lib.hid hPM
 have hwr : IntKind.i64.wrap (N + 1) = N + 1 := IntWalk.i64_in _ (by omega)
 have hMH := Lib.hid hM
 have hBH := Lib.hid hB
 have hW1H := Lib.hid hW1
 have hs1H := Lib.hid hs1
 have hvLH := Lib.hid hvL
 have hmlH := Lib.hid hml
 have hxH := Lib.hid hx
 have c0 := cell_blk h (i := 0) rfl
 have c7 := cell_blk h (i := 7) rfl
 clear hM hB hW1 hs1 h hsrc hon hLR hv hx hq hk hvL hml e2 hvl hvn hvs hvc
 go_enter Tryz.func13, Tryz.ntmps13
 go_wp2_with fail
 rw [← hW1H.out]
 clear c0 c7
 go_loopw [8] (fun iv wr => ∃ i : Nat, iv = .int .i64 i ∧ i ≤ m ∧ (∀ (j : Nat) (hj : j < l.length), j < i → cmpV l[j] x ≠ 0) ∧ Step [] id id W1 wr) (fun iv _ => m - (intOf iv).toNat)
 case atStart => exact ⟨0, rfl, Nat.zero_le _, fun j _ h => absurd h (Nat.not_lt_zero _), Step.refl _ _ _⟩
 case round =>
  obtain ⟨i, rfl, hi, hne, hst⟩ := hrel
  have hneH := Lib.hid hne
  have hMrH := Lib.hid (hst.at hMH.out (by simp))
  have hBrH := Lib.hid (hst.at hBH.out (by simp))
  have hsW := Lib.hid (hs1H.out.tail hst)
  have hstH := Lib.hid hst
  clear hne hst
  have c0 := cell_blk hMrH.out (i := 0) rfl
  have c1 := cell_blk hMrH.out (i := 1) rfl
  have c2 := cell_blk hMrH.out (i := 2) rfl
  have c3 := cell_blk hMrH.out (i := 3) rfl
  have c4 := cell_blk hMrH.out (i := 4) rfl
  have c5 := cell_blk hMrH.out (i := 5) rfl
  have c6 := cell_blk hMrH.out (i := 6) rfl
  have c7 := cell_blk hMrH.out (i := 7) rfl
  have hlM := lt_of_block hMrH.out
  have hlB := lt_of_block hBrH.out
  have fM := free_blk hMrH.out
  obtain ⟨b0, b1, b2, b3, b4, b5⟩ := cells6A hBrH.out
  by_cases him : i < m
  ·have him1 : (i : Int) < (m : Int) := by omega
   have hi0 : (0 : Int) ≤ (i : Int) := by omega
   have hil : i < l.length := by rw [← hmlH.out]; exact him
   have hLr : LIs P wr l la0 0 := LIs.keep (fun _ h => h) (fun k hk hl => (hsW.out.keep k hl (by simp)).2) _ _ _ hvLH.out
   obtain ⟨b9, o9, cs9, hla, -, -, -⟩ := hLr.get hil
   subst hla
   obtain ⟨s1, ba1, bn1, bc1, fa1, fn1, fc1, la1, ln1, lc1, hxj, -, q0, q1, q2, q3, q4, q5⟩ := elem_at hLr hil
   have hgr := World.block_lt_of_cell? _ _ q0
   obtain ⟨k1, hk1⟩ : ∃ k, k = l[i].kind := ⟨_, rfl⟩
   obtain ⟨n1, hn1⟩ : ∃ k, k = l[i].num := ⟨_, rfl⟩
   rw [← hk1] at q0 hxj
   rw [← hn1] at q1 hxj
   have hxw : VIs P wr x [.int .i64 k, .int .i64 n, .string s, .slice ba bn bc, .slice fa fn fc, .slice la ln lc] := hxH.out.keep (fun _ h => h) (fun k hk hl => (hsW.out.keep k hl (by simp)).2)
   have hcmp := Lib.hid (fun (W : World) (hW : Step [] id id wr W) => hcm.out i hil (fun _ => True) (fun _ => True) W _ _ (hxj.keep (P2 := fun _ => True) (w' := W) (fun _ _ => trivial) (fun k hP hk => (hW.keep k hk (by simp)).2)) (hxw.keep (P2 := fun _ => True) (w' := W) (fun _ _ => trivial) (fun k hP hk => (hW.keep k hk (by simp)).2)))
   obtain ⟨C, hC⟩ : ∃ C, C = cmpV l[i] x := ⟨_, rfl⟩
   rw [← hC] at hcmp
   have hCH := Lib.hid hC
   have hcell := Lib.hid (fun (W : World) (hW : Step [] id id wr W) => And.intro (hW.cell c7) (And.intro (hW.cell q0) (And.intro (hW.cell q1) (And.intro (hW.cell q2) (And.intro (hW.cell q3) (And.intro (hW.cell q4) (And.intro (hW.cell q5) (cells6A (hW.at hBrH.out (by simp))))))))))
   have hwrap : IntKind.i64.wrap ((i : Int) + 1) = (i : Int) + 1 := IntWalk.i64_in _ (by omega)
   clear hLr hxj hxw hk1 hn1 hC
   go_wp2_with fail
   refine wp_region_held_drew (S := fun w' => w'.cell? ⟨M, 7, none⟩ = some (.slice (some ⟨b9, o9, none⟩) m lc0) ∧ w'.cell? ⟨b9, o9 + i * 6, none⟩ = some (.int .i64 k1) ∧ w'.cell? ⟨b9, o9 + i * 6 + 1, none⟩ = some (.int .i64 n1) ∧ w'.cell? ⟨b9, o9 + i * 6 + 2, none⟩ = some (.string s1) ∧ w'.cell? ⟨b9, o9 + i * 6 + 3, none⟩ = some (.slice ba1 bn1 bc1) ∧ w'.cell? ⟨b9, o9 + i * 6 + 4, none⟩ = some (.slice fa1 fn1 fc1) ∧ w'.cell? ⟨b9, o9 + i * 6 + 5, none⟩ = some (.slice la1 ln1 lc1) ∧
    w'.cell? ⟨w.heap.size, 0, none⟩ = some (.int .i64 k) ∧ w'.cell? ⟨w.heap.size, 1, none⟩ = some (.int .i64 n) ∧ w'.cell? ⟨w.heap.size, 2, none⟩ = some (.string s) ∧ w'.cell? ⟨w.heap.size, 3, none⟩ = some (.slice ba bn bc) ∧ w'.cell? ⟨w.heap.size, 4, none⟩ = some (.slice fa fn fc) ∧ w'.cell? ⟨w.heap.size, 5, none⟩ = some (.slice la ln lc)) (by kernel_rfl) ⟨c7, q0, q1, q2, q3, q4, q5, b0, b1, b2, b3, b4, b5⟩ (fun hHeld => ?_)
   refine tkH 0 ?_ rfl (by kernel_rfl) (fun _ _ _ h => h) ?_ hHeld ?_
   rotate_left
   ·intro w' hSw; (try dsimp only at hSw); go_simp
    all_goals (with_reducible rfl)
   simp only [zP, zO, zA, zB, zC, zD, zE, zF]
   refine tkH 1 ?_ rfl (by kernel_rfl) (fun _ _ _ h => h) ?_ hHeld ?_
   rotate_left
   ·intro w' hSw; (try dsimp only at hSw); go_simp
    all_goals (with_reducible rfl)
   simp only [zP, zO, zA, zB, zC, zD, zE, zF]
   refine tkH 2 ?_ rfl (by kernel_rfl) (fun _ _ _ h => h) ?_ hHeld ?_
   rotate_left
   ·intro w' hSw; (try dsimp only at hSw); go_simp
    all_goals (with_reducible rfl)
   simp only [zP, zO, zA, zB, zC, zD, zE, zF]
   refine tkH 3 ?_ rfl (by kernel_rfl) (fun _ _ _ h => h) ?_ hHeld ?_
   rotate_left
   ·intro w' hSw; (try dsimp only at hSw); go_simp
    all_goals (with_reducible rfl)
   simp only [zP, zO, zA, zB, zC, zD, zE, zF]
   refine tkH 4 ?_ rfl (by kernel_rfl) (fun _ _ _ h => h) ?_ hHeld ?_
   rotate_left
   ·intro w' hSw; (try dsimp only at hSw); go_simp
    all_goals (with_reducible rfl)
   simp only [zP, zO, zA, zB, zC, zD, zE, zF]
   refine tkH 5 ?_ rfl (by kernel_rfl) (fun _ _ _ h => h) ?_ hHeld ?_
   rotate_left
   ·intro w' hSw; (try dsimp only at hSw); go_simp
    all_goals (with_reducible rfl)
   simp only [zP, zO, zA, zB, zC, zD, zE, zF]
   refine tkH 6 ?_ rfl (by kernel_rfl) (fun _ _ _ h => h) ?_ hHeld ?_
   rotate_left
   ·intro w' hSw; (try dsimp only at hSw); go_simp
    all_goals (with_reducible rfl)
   simp only [zP, zO, zA, zB, zC, zD, zE, zF]
   refine tkH 7 ?_ rfl (by kernel_rfl) (fun _ _ _ h => h) ?_ hHeld ?_
   rotate_left
   ·intro w' hSw; (try dsimp only at hSw); go_simp
    all_goals (with_reducible rfl)
   simp only [zP, zO, zA, zB, zC, zD, zE, zF]
   refine tkH 8 ?_ rfl (by kernel_rfl) (fun _ _ _ h => h) ?_ hHeld ?_
   rotate_left
   ·intro w' hSw; (try dsimp only at hSw); go_simp
    all_goals (with_reducible rfl)
   simp only [zP, zO, zA, zB, zC, zD, zE, zF]
   refine wpAnyH_ready (rs := [9]) (by kernel_rfl) (by simp) ?_
   refine AllReadyH.cons (o := _) rfl (fun K hK => ?_) AllReadyH.nil
   go_simp
   refine (hcmp.out _ Step.drew).mono ?_
   rintro e w3 ⟨rfl, hs3⟩
   have hs13 : Step [] id id wr w3 := Step.drew.tail hs3
   go_wp2_with fail
   refine hK.out _ _ ?_ (fun hHeld => ?_)
   ·exact hcell.out _ hs13
   clear hK K
   refine tkH 10 ?_ rfl (by kernel_rfl) (fun _ _ _ h => h) ?_ hHeld ?_
   rotate_left
   ·intro w' hSw; (try dsimp only at hSw); go_simp
    all_goals (with_reducible rfl)
   simp only [zP, zO, zA, zB, zC, zD, zE, zF]
   refine wpAnyH_done (by kernel_rfl) ?_ _
   clear c0 c1 c2 c3 c4 c5 c6 c7 b0 b1 b2 b3 b4 b5 q0 q1 q2 q3 q4 q5 hHeld hlM hlB fM hgr
   have hM3 := hs13.at hMrH.out (by simp)
   have c1 := cell_blk hM3 (i := 1) rfl
   have hlM := lt_of_block hM3
   have fM := free_blk hM3
   have hM3H := Lib.hid hM3
   have hs13H := Lib.hid hs13
   clear hM3 hs3 hs13
   by_cases hc0 : C = 0
   ·have hcb : (C == 0) = true := by rw [beq_iff_eq]; exact hc0
    have hc0H := Lib.hid hc0
    clear hc0
    go_wp2_with fail
    go_ret
    unfold RSet
    rw [if_pos (List.any_eq_true.2 ⟨l[i], List.getElem_mem _, by rw [← hCH.out, hc0H.out]; rfl⟩)]
    exact count_ends hM3H.out (hsW.out.tail hs13H.out)
   ·have hcb : (C == 0) = false := by rw [beq_eq_false_iff_ne]; exact hc0
    have hc0H := Lib.hid hc0
    clear hc0 c1 hlM fM
    go_wp2_with fail
    go_roundw
    case rel =>
     refine ⟨i + 1, by go_num, by omega, fun j hj hlt => ?_, hstH.out.tail hs13H.out⟩
     rcases Nat.lt_or_ge j i with h | h
     ·exact hneH.out j hj h
     ·obtain rfl : j = i := by omega
      rw [← hCH.out]; exact hc0H.out
    case measure => simp [intOf]; omega
  ·have him1 : ¬ (i : Int) < (m : Int) := by omega
   have hany : l.any (fun y => cmpV y x == 0) = false := by
    rw [List.any_eq_false]
    intro y hy
    obtain ⟨j, hj, rfl⟩ := List.getElem_of_mem hy
    rw [beq_iff_eq]
    exact hneH.out j hj (by have := hmlH.out; omega)
   have hanyH := Lib.hid hany
   have hall := Lib.hid (fun (W : World) (hs : Step [] id id wr W) => And.intro (cell_blk (hs.at hMrH.out (by simp)) (i := 7) rfl) (cells6A (hs.at hBrH.out (by simp))))
   have hMH := hMrH
   clear hany
   go_wp2_with fail
   refine wp_more m (xs ++ [.int .i64 k, .int .i64 n, .string s, .slice ba bn bc, .slice fa fn fc, .slice la ln lc]) ?_ ?_
   ·refine wp_region_held_drew (S := fun w' => w'.cell? ⟨M, 7, none⟩ = some (.slice la0 m lc0) ∧ w'.cell? ⟨w.heap.size, 0, none⟩ = some (.int .i64 k) ∧ w'.cell? ⟨w.heap.size, 1, none⟩ = some (.int .i64 n) ∧ w'.cell? ⟨w.heap.size, 2, none⟩ = some (.string s) ∧ w'.cell? ⟨w.heap.size, 3, none⟩ = some (.slice ba bn bc) ∧ w'.cell? ⟨w.heap.size, 4, none⟩ = some (.slice fa fn fc) ∧ w'.cell? ⟨w.heap.size, 5, none⟩ = some (.slice la ln lc)) (by kernel_rfl) ⟨c7, b0, b1, b2, b3, b4, b5⟩ (fun hHeld => ?_)
    obtain ⟨WS, hWS⟩ : ∃ X, X = (wr).drew := ⟨_, rfl⟩
    have hs : Step [] id id wr WS := by rw [hWS]; exact Step.drew
    rw [← hWS]
    (try rw [← hWS] at hHeld)
    clear hWS c0 c1 c2 c3 c4 c5 c6 c7 b0 b1 b2 b3 b4 b5 fM hlM hlB
    refine tkH 0 ?_ rfl (by kernel_rfl) (fun _ _ _ h => h) ?_ hHeld ?_
    rotate_left
    ·intro w' hSw; (try dsimp only at hSw); go_simp
     all_goals (with_reducible rfl)
    simp only [zP, zO, zA, zB, zC, zD, zE, zF]
    refine tkH 1 ?_ rfl (by kernel_rfl) (fun _ _ _ h => h) ?_ hHeld ?_
    rotate_left
    ·intro w' hSw; (try dsimp only at hSw); go_simp
     all_goals (with_reducible rfl)
    simp only [zP, zO, zA, zB, zC, zD, zE, zF]
    refine tkH 2 ?_ rfl (by kernel_rfl) (fun _ _ _ h => h) ?_ hHeld ?_
    rotate_left
    ·intro w' hSw; (try dsimp only at hSw); go_simp
     all_goals (with_reducible rfl)
    simp only [zP, zO, zA, zB, zC, zD, zE, zF]
    refine tkH 3 ?_ rfl (by kernel_rfl) (fun _ _ _ h => h) ?_ hHeld ?_
    rotate_left
    ·intro w' hSw; (try dsimp only at hSw); go_simp
     all_goals (with_reducible rfl)
    simp only [zP, zO, zA, zB, zC, zD, zE, zF]
    refine tkH 4 ?_ rfl (by kernel_rfl) (fun _ _ _ h => h) ?_ hHeld ?_
    rotate_left
    ·intro w' hSw; (try dsimp only at hSw); go_simp
     all_goals (with_reducible rfl)
    simp only [zP, zO, zA, zB, zC, zD, zE, zF]
    refine tkH 6 ?_ rfl (by kernel_rfl) (fun _ _ _ h => h) ?_ hHeld ?_
    rotate_left
    ·intro w' hSw; (try dsimp only at hSw); go_simp
     all_goals (with_reducible rfl)
    simp only [zP, zO, zA, zB, zC, zD, zE, zF]
    refine wpAnyH_ready (rs := [5, 7, 10]) (by kernel_rfl) (by simp) ?_
    refine AllReadyH.cons (o := _) rfl (fun K hK => ?_) (AllReadyH.cons (o := _) rfl (fun K hK => ?_) (AllReadyH.cons (o := _) rfl (fun K hK => ?_) AllReadyH.nil))
    ·refine wp_app_nil (.tmp 145) (by rfl) (by rfl) hs (hsrcH.out.step (hsW.out.tail hs)) hones.out (by omega) ?_
     intro adA cA WA hsA hRA atA
     have hs := hs.tail hsA
     refine hK.out _ _ ?_ (fun hHeld => ?_)
     ·exact hall.out _ hs
     clear hK K
     refine wpAnyH_ready (rs := [7, 10]) (by kernel_rfl) (by simp) ?_
     refine AllReadyH.cons (o := _) rfl (fun K hK => ?_) (AllReadyH.cons (o := _) rfl (fun K hK => ?_) AllReadyH.nil)
     ·go_simp
      obtain ⟨WB, hWB⟩ : ∃ X, X = (WA).alloc (.cells #[.int .i64 k, .int .i64 n, .string s, .slice ba bn bc, .slice fa fn fc, .slice la ln lc] 35) := ⟨_, rfl⟩
      rw [← hWB]
      have hB : WB.heap[(WA).heap.size]? = some (.cells #[.int .i64 k, .int .i64 n, .string s, .slice ba bn bc, .slice fa fn fc, .slice la ln lc] 35 (0, 0)) := by rw [hWB]; exact heap_alloc_new _ _
      have hsB : Step [] id id WA WB := by rw [hWB]; exact Step.alloc _
      have hs := hs.tail hsB
      clear hWB
      refine hK.out _ _ ?_ (fun hHeld => ?_)
      ·exact hall.out _ hs
      clear hK K
      have hRA := hRA.on hsB
      refine wpAnyH_ready (rs := [8, 10]) (by kernel_rfl) (by simp) ?_
      refine AllReadyH.cons (o := _) rfl (fun K hK => ?_) (AllReadyH.cons (o := _) rfl (fun K hK => ?_) AllReadyH.nil)
      ·refine wp_app_one (.tmp 146) (.tmp 148) (by rfl) (by rfl) (by rfl) hs hRA hB rfl honesX.out (by omega) ?_
       intro adC cC WC hsC hs hRC atC
       refine hK.out _ _ ?_ (fun hHeld => ?_)
       ·exact hall.out _ hs
       clear hK K
       refine tkH 9 ?_ rfl (by kernel_rfl) (fun _ _ _ h => h) ?_ hHeld ?_
       rotate_left
       ·intro w' hSw; (try dsimp only at hSw); go_simp
        all_goals (with_reducible rfl)
       simp only [zP, zO, zA, zB, zC, zD, zE, zF]
       refine wpAnyH_ready (rs := [10]) (by kernel_rfl) (by simp) ?_
       refine AllReadyH.cons (o := _) rfl (fun K hK => ?_) AllReadyH.nil
       go_simp
       obtain ⟨WD, hWD⟩ : ∃ X, X = (WC).alloc (.cells #[.int .i64 0, .int .i64 0, (.string ⟨#[]⟩), (.slice none 0 0), (.slice none 0 0), (.slice none 0 0)] 35) := ⟨_, rfl⟩
       rw [← hWD]
       have hD : WD.heap[(WC).heap.size]? = some ((.cells #[.int .i64 0, .int .i64 0, (.string ⟨#[]⟩), (.slice none 0 0), (.slice none 0 0), (.slice none 0 0)] 35) : Obj) := by rw [hWD]; exact heap_alloc_new _ _
       have hsD : Step [] id id WC WD := by rw [hWD]; exact Step.alloc _
       have hDn := hs.size
       have hs := hs.tail hsD
       clear hWD
       refine hK.out _ _ ?_ (fun hHeld => ?_)
       ·exact hall.out _ hs
       clear hK K
       have hfar := hRC.far (Nat.le_refl _)
       have hRC := hRC.on hsD
       have hDl := lt_of_block hD
       obtain ⟨z0, z1, z2, z3, z4, z5⟩ := cells6A hD
       have fz := free_blk hD
       refine wpAnyH_ready (rs := [11]) (by kernel_rfl) (by simp) ?_
       refine AllReadyH.cons (o := _) rfl (fun K hK => ?_) AllReadyH.nil
       go_simp
       obtain ⟨WF, hWF, hX, hs, hRF⟩ := laid_z hD hDn hs hRC hfar (.int .i64 7) (.int .i64 0) (.string ⟨#[]⟩) (.slice none 0 0) (.slice none 0 0) (.slice adC (m + 1) cC)
       change K _ (set6 WD (WC).heap.size (.int .i64 7) (.int .i64 0) (.string ⟨#[]⟩) (.slice none 0 0) (.slice none 0 0) (.slice adC (m + 1) cC))
       rw [← hWF]
       refine hK.out _ _ ?_ (fun hHeld => ?_)
       ·exact hall.out _ hs
       clear hK K
       refine wpAnyH_done (by kernel_rfl) ?_ _
       exact ⟨(WC).heap.size, adC, cC, .pointer (some ⟨M, 0, none⟩), .pointer (some ⟨M, 0, none⟩), .pointer (some ⟨M, 2, none⟩), .pointer (some ⟨M, 7, none⟩), .slice la0 m lc0, .slice adA m cA, .agg #[.int .i64 k, .int .i64 n, .string s, .slice ba bn bc, .slice fa fn fc, .slice la ln lc], .slice (some ⟨(WA).heap.size, 0, none⟩) 1 1, .slice adC (m + 1) cC, .agg #[.int .i64 7, .int .i64 0, (.string ⟨#[]⟩), (.slice none 0 0), (.slice none 0 0), .slice adC (m + 1) cC], by simp only [zP, zD, zE, zF], hX, hRF, hs⟩
      ·go_simp
       obtain ⟨WD, hWD⟩ : ∃ X, X = (WB).alloc (.cells #[.int .i64 0, .int .i64 0, (.string ⟨#[]⟩), (.slice none 0 0), (.slice none 0 0), (.slice none 0 0)] 35) := ⟨_, rfl⟩
       rw [← hWD]
       have hD : WD.heap[(WB).heap.size]? = some ((.cells #[.int .i64 0, .int .i64 0, (.string ⟨#[]⟩), (.slice none 0 0), (.slice none 0 0), (.slice none 0 0)] 35) : Obj) := by rw [hWD]; exact heap_alloc_new _ _
       have hsD : Step [] id id WB WD := by rw [hWD]; exact Step.alloc _
       have hDn := hs.size
       have hs := hs.tail hsD
       clear hWD
       refine hK.out _ _ ?_ (fun hHeld => ?_)
       ·exact hall.out _ hs
       clear hK K
       have hfar := hRA.far (Nat.le_refl _)
       have hRA := hRA.on hsD
       have hB := hsD.at hB (by simp)
       refine wpAnyH_ready (rs := [8]) (by kernel_rfl) (by simp) ?_
       refine AllReadyH.cons (o := _) rfl (fun K hK => ?_) AllReadyH.nil
       refine wp_app_one (.tmp 146) (.tmp 148) (by rfl) (by rfl) (by rfl) hs hRA hB rfl honesX.out (by omega) ?_
       intro adC cC WC hsC hs hRC atC
       refine hK.out _ _ ?_ (fun hHeld => ?_)
       ·exact hall.out _ hs
       clear hK K
       refine tkH 9 ?_ rfl (by kernel_rfl) (fun _ _ _ h => h) ?_ hHeld ?_
       rotate_left
       ·intro w' hSw; (try dsimp only at hSw); go_simp
        all_goals (with_reducible rfl)
       simp only [zP, zO, zA, zB, zC, zD, zE, zF]
       have hfar2 : (Value.slice adC (m + 1) cC).ownBlock ≠ some (WB).heap.size := fun e => by
        have hl := lt_of_block hD
        rcases atC with h | h
        ·exact hfar (by rw [← h]; exact e)
        ·rw [h] at e; injection e with e; omega
       have hD := hsC.at hD (by simpa using hfar)
       have hDl := lt_of_block hD
       obtain ⟨z0, z1, z2, z3, z4, z5⟩ := cells6A hD
       have fz := free_blk hD
       refine wpAnyH_ready (rs := [11]) (by kernel_rfl) (by simp) ?_
       refine AllReadyH.cons (o := _) rfl (fun K hK => ?_) AllReadyH.nil
       go_simp
       obtain ⟨WF, hWF, hX, hs, hRF⟩ := laid_z hD hDn hs hRC hfar2 (.int .i64 7) (.int .i64 0) (.string ⟨#[]⟩) (.slice none 0 0) (.slice none 0 0) (.slice adC (m + 1) cC)
       change K _ (set6 WC (WB).heap.size (.int .i64 7) (.int .i64 0) (.string ⟨#[]⟩) (.slice none 0 0) (.slice none 0 0) (.slice adC (m + 1) cC))
       rw [← hWF]
       refine hK.out _ _ ?_ (fun hHeld => ?_)
       ·exact hall.out _ hs
       clear hK K
       refine wpAnyH_done (by kernel_rfl) ?_ _
       exact ⟨(WB).heap.size, adC, cC, .pointer (some ⟨M, 0, none⟩), .pointer (some ⟨M, 0, none⟩), .pointer (some ⟨M, 2, none⟩), .pointer (some ⟨M, 7, none⟩), .slice la0 m lc0, .slice adA m cA, .agg #[.int .i64 k, .int .i64 n, .string s, .slice ba bn bc, .slice fa fn fc, .slice la ln lc], .slice (some ⟨(WA).heap.size, 0, none⟩) 1 1, .slice adC (m + 1) cC, .agg #[.int .i64 7, .int .i64 0, (.string ⟨#[]⟩), (.slice none 0 0), (.slice none 0 0), .slice adC (m + 1) cC], by simp only [zP, zD, zE, zF], hX, hRF, hs⟩
     ·go_simp
      obtain ⟨WD, hWD⟩ : ∃ X, X = (WA).alloc (.cells #[.int .i64 0, .int .i64 0, (.string ⟨#[]⟩), (.slice none 0 0), (.slice none 0 0), (.slice none 0 0)] 35) := ⟨_, rfl⟩
      rw [← hWD]
      have hD : WD.heap[(WA).heap.size]? = some ((.cells #[.int .i64 0, .int .i64 0, (.string ⟨#[]⟩), (.slice none 0 0), (.slice none 0 0), (.slice none 0 0)] 35) : Obj) := by rw [hWD]; exact heap_alloc_new _ _
      have hsD : Step [] id id WA WD := by rw [hWD]; exact Step.alloc _
      have hDn := hs.size
      have hs := hs.tail hsD
      clear hWD
      refine hK.out _ _ ?_ (fun hHeld => ?_)
      ·exact hall.out _ hs
      clear hK K
      have hfar := hRA.far (Nat.le_refl _)
      have hRA := hRA.on hsD
      refine wpAnyH_ready (rs := [7]) (by kernel_rfl) (by simp) ?_
      refine AllReadyH.cons (o := _) rfl (fun K hK => ?_) AllReadyH.nil
      go_simp
      obtain ⟨WB, hWB⟩ : ∃ X, X = (WD).alloc (.cells #[.int .i64 k, .int .i64 n, .string s, .slice ba bn bc, .slice fa fn fc, .slice la ln lc] 35) := ⟨_, rfl⟩
      rw [← hWB]
      have hB : WB.heap[(WD).heap.size]? = some (.cells #[.int .i64 k, .int .i64 n, .string s, .slice ba bn bc, .slice fa fn fc, .slice la ln lc] 35 (0, 0)) := by rw [hWB]; exact heap_alloc_new _ _
      have hsB : Step [] id id WD WB := by rw [hWB]; exact Step.alloc _
      have hs := hs.tail hsB
      clear hWB
      refine hK.out _ _ ?_ (fun hHeld => ?_)
      ·exact hall.out _ hs
      clear hK K
      have hRA := hRA.on hsB
      have hD := hsB.at hD (by simp)
      refine wpAnyH_ready (rs := [8]) (by kernel_rfl) (by simp) ?_
      refine AllReadyH.cons (o := _) rfl (fun K hK => ?_) AllReadyH.nil
      refine wp_app_one (.tmp 146) (.tmp 148) (by rfl) (by rfl) (by rfl) hs hRA hB rfl honesX.out (by omega) ?_
      intro adC cC WC hsC hs hRC atC
      refine hK.out _ _ ?_ (fun hHeld => ?_)
      ·exact hall.out _ hs
      clear hK K
      refine tkH 9 ?_ rfl (by kernel_rfl) (fun _ _ _ h => h) ?_ hHeld ?_
      rotate_left
      ·intro w' hSw; (try dsimp only at hSw); go_simp
       all_goals (with_reducible rfl)
      simp only [zP, zO, zA, zB, zC, zD, zE, zF]
      have hfar2 : (Value.slice adC (m + 1) cC).ownBlock ≠ some (WA).heap.size := fun e => by
       have hl := lt_of_block hD
       rcases atC with h | h
       ·exact hfar (by rw [← h]; exact e)
       ·rw [h] at e; injection e with e; omega
      have hD := hsC.at hD (by simpa using hfar)
      have hDl := lt_of_block hD
      obtain ⟨z0, z1, z2, z3, z4, z5⟩ := cells6A hD
      have fz := free_blk hD
      refine wpAnyH_ready (rs := [11]) (by kernel_rfl) (by simp) ?_
      refine AllReadyH.cons (o := _) rfl (fun K hK => ?_) AllReadyH.nil
      go_simp
      obtain ⟨WF, hWF, hX, hs, hRF⟩ := laid_z hD hDn hs hRC hfar2 (.int .i64 7) (.int .i64 0) (.string ⟨#[]⟩) (.slice none 0 0) (.slice none 0 0) (.slice adC (m + 1) cC)
      change K _ (set6 WC (WA).heap.size (.int .i64 7) (.int .i64 0) (.string ⟨#[]⟩) (.slice none 0 0) (.slice none 0 0) (.slice adC (m + 1) cC))
      rw [← hWF]
      refine hK.out _ _ ?_ (fun hHeld => ?_)
      ·exact hall.out _ hs
      clear hK K
      refine wpAnyH_done (by kernel_rfl) ?_ _
      exact ⟨(WA).heap.size, adC, cC, .pointer (some ⟨M, 0, none⟩), .pointer (some ⟨M, 0, none⟩), .pointer (some ⟨M, 2, none⟩), .pointer (some ⟨M, 7, none⟩), .slice la0 m lc0, .slice adA m cA, .agg #[.int .i64 k, .int .i64 n, .string s, .slice ba bn bc, .slice fa fn fc, .slice la ln lc], .slice (some ⟨(WD).heap.size, 0, none⟩) 1 1, .slice adC (m + 1) cC, .agg #[.int .i64 7, .int .i64 0, (.string ⟨#[]⟩), (.slice none 0 0), (.slice none 0 0), .slice adC (m + 1) cC], by simp only [zP, zD, zE, zF], hX, hRF, hs⟩
    ·go_simp
     obtain ⟨WB, hWB⟩ : ∃ X, X = (WS).alloc (.cells #[.int .i64 k, .int .i64 n, .string s, .slice ba bn bc, .slice fa fn fc, .slice la ln lc] 35) := ⟨_, rfl⟩
     rw [← hWB]
     have hB : WB.heap[(WS).heap.size]? = some (.cells #[.int .i64 k, .int .i64 n, .string s, .slice ba bn bc, .slice fa fn fc, .slice la ln lc] 35 (0, 0)) := by rw [hWB]; exact heap_alloc_new _ _
     have hsB : Step [] id id WS WB := by rw [hWB]; exact Step.alloc _
     have hs := hs.tail hsB
     clear hWB
     refine hK.out _ _ ?_ (fun hHeld => ?_)
     ·exact hall.out _ hs
     clear hK K
     refine wpAnyH_ready (rs := [5, 10]) (by kernel_rfl) (by simp) ?_
     refine AllReadyH.cons (o := _) rfl (fun K hK => ?_) (AllReadyH.cons (o := _) rfl (fun K hK => ?_) AllReadyH.nil)
     ·refine wp_app_nil (.tmp 145) (by rfl) (by rfl) hs (hsrcH.out.step (hsW.out.tail hs)) hones.out (by omega) ?_
      intro adA cA WA hsA hRA atA
      have hs := hs.tail hsA
      refine hK.out _ _ ?_ (fun hHeld => ?_)
      ·exact hall.out _ hs
      clear hK K
      have hB := hsA.at hB (by simp)
      refine wpAnyH_ready (rs := [8, 10]) (by kernel_rfl) (by simp) ?_
      refine AllReadyH.cons (o := _) rfl (fun K hK => ?_) (AllReadyH.cons (o := _) rfl (fun K hK => ?_) AllReadyH.nil)
      ·refine wp_app_one (.tmp 146) (.tmp 148) (by rfl) (by rfl) (by rfl) hs hRA hB rfl honesX.out (by omega) ?_
       intro adC cC WC hsC hs hRC atC
       refine hK.out _ _ ?_ (fun hHeld => ?_)
       ·exact hall.out _ hs
       clear hK K
       refine tkH 9 ?_ rfl (by kernel_rfl) (fun _ _ _ h => h) ?_ hHeld ?_
       rotate_left
       ·intro w' hSw; (try dsimp only at hSw); go_simp
        all_goals (with_reducible rfl)
       simp only [zP, zO, zA, zB, zC, zD, zE, zF]
       refine wpAnyH_ready (rs := [10]) (by kernel_rfl) (by simp) ?_
       refine AllReadyH.cons (o := _) rfl (fun K hK => ?_) AllReadyH.nil
       go_simp
       obtain ⟨WD, hWD⟩ : ∃ X, X = (WC).alloc (.cells #[.int .i64 0, .int .i64 0, (.string ⟨#[]⟩), (.slice none 0 0), (.slice none 0 0), (.slice none 0 0)] 35) := ⟨_, rfl⟩
       rw [← hWD]
       have hD : WD.heap[(WC).heap.size]? = some ((.cells #[.int .i64 0, .int .i64 0, (.string ⟨#[]⟩), (.slice none 0 0), (.slice none 0 0), (.slice none 0 0)] 35) : Obj) := by rw [hWD]; exact heap_alloc_new _ _
       have hsD : Step [] id id WC WD := by rw [hWD]; exact Step.alloc _
       have hDn := hs.size
       have hs := hs.tail hsD
       clear hWD
       refine hK.out _ _ ?_ (fun hHeld => ?_)
       ·exact hall.out _ hs
       clear hK K
       have hfar := hRC.far (Nat.le_refl _)
       have hRC := hRC.on hsD
       have hDl := lt_of_block hD
       obtain ⟨z0, z1, z2, z3, z4, z5⟩ := cells6A hD
       have fz := free_blk hD
       refine wpAnyH_ready (rs := [11]) (by kernel_rfl) (by simp) ?_
       refine AllReadyH.cons (o := _) rfl (fun K hK => ?_) AllReadyH.nil
       go_simp
       obtain ⟨WF, hWF, hX, hs, hRF⟩ := laid_z hD hDn hs hRC hfar (.int .i64 7) (.int .i64 0) (.string ⟨#[]⟩) (.slice none 0 0) (.slice none 0 0) (.slice adC (m + 1) cC)
       change K _ (set6 WD (WC).heap.size (.int .i64 7) (.int .i64 0) (.string ⟨#[]⟩) (.slice none 0 0) (.slice none 0 0) (.slice adC (m + 1) cC))
       rw [← hWF]
       refine hK.out _ _ ?_ (fun hHeld => ?_)
       ·exact hall.out _ hs
       clear hK K
       refine wpAnyH_done (by kernel_rfl) ?_ _
       exact ⟨(WC).heap.size, adC, cC, .pointer (some ⟨M, 0, none⟩), .pointer (some ⟨M, 0, none⟩), .pointer (some ⟨M, 2, none⟩), .pointer (some ⟨M, 7, none⟩), .slice la0 m lc0, .slice adA m cA, .agg #[.int .i64 k, .int .i64 n, .string s, .slice ba bn bc, .slice fa fn fc, .slice la ln lc], .slice (some ⟨(WS).heap.size, 0, none⟩) 1 1, .slice adC (m + 1) cC, .agg #[.int .i64 7, .int .i64 0, (.string ⟨#[]⟩), (.slice none 0 0), (.slice none 0 0), .slice adC (m + 1) cC], by simp only [zP, zD, zE, zF], hX, hRF, hs⟩
      ·go_simp
       obtain ⟨WD, hWD⟩ : ∃ X, X = (WA).alloc (.cells #[.int .i64 0, .int .i64 0, (.string ⟨#[]⟩), (.slice none 0 0), (.slice none 0 0), (.slice none 0 0)] 35) := ⟨_, rfl⟩
       rw [← hWD]
       have hD : WD.heap[(WA).heap.size]? = some ((.cells #[.int .i64 0, .int .i64 0, (.string ⟨#[]⟩), (.slice none 0 0), (.slice none 0 0), (.slice none 0 0)] 35) : Obj) := by rw [hWD]; exact heap_alloc_new _ _
       have hsD : Step [] id id WA WD := by rw [hWD]; exact Step.alloc _
       have hDn := hs.size
       have hs := hs.tail hsD
       clear hWD
       refine hK.out _ _ ?_ (fun hHeld => ?_)
       ·exact hall.out _ hs
       clear hK K
       have hfar := hRA.far (Nat.le_refl _)
       have hRA := hRA.on hsD
       have hB := hsD.at hB (by simp)
       refine wpAnyH_ready (rs := [8]) (by kernel_rfl) (by simp) ?_
       refine AllReadyH.cons (o := _) rfl (fun K hK => ?_) AllReadyH.nil
       refine wp_app_one (.tmp 146) (.tmp 148) (by rfl) (by rfl) (by rfl) hs hRA hB rfl honesX.out (by omega) ?_
       intro adC cC WC hsC hs hRC atC
       refine hK.out _ _ ?_ (fun hHeld => ?_)
       ·exact hall.out _ hs
       clear hK K
       refine tkH 9 ?_ rfl (by kernel_rfl) (fun _ _ _ h => h) ?_ hHeld ?_
       rotate_left
       ·intro w' hSw; (try dsimp only at hSw); go_simp
        all_goals (with_reducible rfl)
       simp only [zP, zO, zA, zB, zC, zD, zE, zF]
       have hfar2 : (Value.slice adC (m + 1) cC).ownBlock ≠ some (WA).heap.size := fun e => by
        have hl := lt_of_block hD
        rcases atC with h | h
        ·exact hfar (by rw [← h]; exact e)
        ·rw [h] at e; injection e with e; omega
       have hD := hsC.at hD (by simpa using hfar)
       have hDl := lt_of_block hD
       obtain ⟨z0, z1, z2, z3, z4, z5⟩ := cells6A hD
       have fz := free_blk hD
       refine wpAnyH_ready (rs := [11]) (by kernel_rfl) (by simp) ?_
       refine AllReadyH.cons (o := _) rfl (fun K hK => ?_) AllReadyH.nil
       go_simp
       obtain ⟨WF, hWF, hX, hs, hRF⟩ := laid_z hD hDn hs hRC hfar2 (.int .i64 7) (.int .i64 0) (.string ⟨#[]⟩) (.slice none 0 0) (.slice none 0 0) (.slice adC (m + 1) cC)
       change K _ (set6 WC (WA).heap.size (.int .i64 7) (.int .i64 0) (.string ⟨#[]⟩) (.slice none 0 0) (.slice none 0 0) (.slice adC (m + 1) cC))
       rw [← hWF]
       refine hK.out _ _ ?_ (fun hHeld => ?_)
       ·exact hall.out _ hs
       clear hK K
       refine wpAnyH_done (by kernel_rfl) ?_ _
       exact ⟨(WA).heap.size, adC, cC, .pointer (some ⟨M, 0, none⟩), .pointer (some ⟨M, 0, none⟩), .pointer (some ⟨M, 2, none⟩), .pointer (some ⟨M, 7, none⟩), .slice la0 m lc0, .slice adA m cA, .agg #[.int .i64 k, .int .i64 n, .string s, .slice ba bn bc, .slice fa fn fc, .slice la ln lc], .slice (some ⟨(WS).heap.size, 0, none⟩) 1 1, .slice adC (m + 1) cC, .agg #[.int .i64 7, .int .i64 0, (.string ⟨#[]⟩), (.slice none 0 0), (.slice none 0 0), .slice adC (m + 1) cC], by simp only [zP, zD, zE, zF], hX, hRF, hs⟩
     ·go_simp
      obtain ⟨WD, hWD⟩ : ∃ X, X = (WB).alloc (.cells #[.int .i64 0, .int .i64 0, (.string ⟨#[]⟩), (.slice none 0 0), (.slice none 0 0), (.slice none 0 0)] 35) := ⟨_, rfl⟩
      rw [← hWD]
      have hD : WD.heap[(WB).heap.size]? = some ((.cells #[.int .i64 0, .int .i64 0, (.string ⟨#[]⟩), (.slice none 0 0), (.slice none 0 0), (.slice none 0 0)] 35) : Obj) := by rw [hWD]; exact heap_alloc_new _ _
      have hsD : Step [] id id WB WD := by rw [hWD]; exact Step.alloc _
      have hDn := hs.size
      have hs := hs.tail hsD
      clear hWD
      refine hK.out _ _ ?_ (fun hHeld => ?_)
      ·exact hall.out _ hs
      clear hK K
      have hB := hsD.at hB (by simp)
      refine wpAnyH_ready (rs := [5]) (by kernel_rfl) (by simp) ?_
      refine AllReadyH.cons (o := _) rfl (fun K hK => ?_) AllReadyH.nil
      refine wp_app_nil (.tmp 145) (by rfl) (by rfl) hs (hsrcH.out.step (hsW.out.tail hs)) hones.out (by omega) ?_
      intro adA cA WA hsA hRA atA
      have hs := hs.tail hsA
      refine hK.out _ _ ?_ (fun hHeld => ?_)
      ·exact hall.out _ hs
      clear hK K
      have hfar : (Value.slice adA m cA).ownBlock ≠ some (WB).heap.size := fun e => by
       have hl := lt_of_block hD
       rcases atA with h | h
       ·rw [h] at e; cases e
       ·rw [h] at e; injection e with e; omega
      have hD := hsA.at hD (by simp)
      have hB := hsA.at hB (by simp)
      refine wpAnyH_ready (rs := [8]) (by kernel_rfl) (by simp) ?_
      refine AllReadyH.cons (o := _) rfl (fun K hK => ?_) AllReadyH.nil
      refine wp_app_one (.tmp 146) (.tmp 148) (by rfl) (by rfl) (by rfl) hs hRA hB rfl honesX.out (by omega) ?_
      intro adC cC WC hsC hs hRC atC
      refine hK.out _ _ ?_ (fun hHeld => ?_)
      ·exact hall.out _ hs
      clear hK K
      refine tkH 9 ?_ rfl (by kernel_rfl) (fun _ _ _ h => h) ?_ hHeld ?_
      rotate_left
      ·intro w' hSw; (try dsimp only at hSw); go_simp
       all_goals (with_reducible rfl)
      simp only [zP, zO, zA, zB, zC, zD, zE, zF]
      have hfar2 : (Value.slice adC (m + 1) cC).ownBlock ≠ some (WB).heap.size := fun e => by
       have hl := lt_of_block hD
       rcases atC with h | h
       ·exact hfar (by rw [← h]; exact e)
       ·rw [h] at e; injection e with e; omega
      have hD := hsC.at hD (by simpa using hfar)
      have hDl := lt_of_block hD
      obtain ⟨z0, z1, z2, z3, z4, z5⟩ := cells6A hD
      have fz := free_blk hD
      refine wpAnyH_ready (rs := [11]) (by kernel_rfl) (by simp) ?_
      refine AllReadyH.cons (o := _) rfl (fun K hK => ?_) AllReadyH.nil
      go_simp
      obtain ⟨WF, hWF, hX, hs, hRF⟩ := laid_z hD hDn hs hRC hfar2 (.int .i64 7) (.int .i64 0) (.string ⟨#[]⟩) (.slice none 0 0) (.slice none 0 0) (.slice adC (m + 1) cC)
      change K _ (set6 WC (WB).heap.size (.int .i64 7) (.int .i64 0) (.string ⟨#[]⟩) (.slice none 0 0) (.slice none 0 0) (.slice adC (m + 1) cC))
      rw [← hWF]
      refine hK.out _ _ ?_ (fun hHeld => ?_)
      ·exact hall.out _ hs
      clear hK K
      refine wpAnyH_done (by kernel_rfl) ?_ _
      exact ⟨(WB).heap.size, adC, cC, .pointer (some ⟨M, 0, none⟩), .pointer (some ⟨M, 0, none⟩), .pointer (some ⟨M, 2, none⟩), .pointer (some ⟨M, 7, none⟩), .slice la0 m lc0, .slice adA m cA, .agg #[.int .i64 k, .int .i64 n, .string s, .slice ba bn bc, .slice fa fn fc, .slice la ln lc], .slice (some ⟨(WS).heap.size, 0, none⟩) 1 1, .slice adC (m + 1) cC, .agg #[.int .i64 7, .int .i64 0, (.string ⟨#[]⟩), (.slice none 0 0), (.slice none 0 0), .slice adC (m + 1) cC], by simp only [zP, zD, zE, zF], hX, hRF, hs⟩
    ·go_simp
     obtain ⟨WD, hWD⟩ : ∃ X, X = (WS).alloc (.cells #[.int .i64 0, .int .i64 0, (.string ⟨#[]⟩), (.slice none 0 0), (.slice none 0 0), (.slice none 0 0)] 35) := ⟨_, rfl⟩
     rw [← hWD]
     have hD : WD.heap[(WS).heap.size]? = some ((.cells #[.int .i64 0, .int .i64 0, (.string ⟨#[]⟩), (.slice none 0 0), (.slice none 0 0), (.slice none 0 0)] 35) : Obj) := by rw [hWD]; exact heap_alloc_new _ _
     have hsD : Step [] id id WS WD := by rw [hWD]; exact Step.alloc _
     have hDn := hs.size
     have hs := hs.tail hsD
     clear hWD
     refine hK.out _ _ ?_ (fun hHeld => ?_)
     ·exact hall.out _ hs
     clear hK K
     refine wpAnyH_ready (rs := [5, 7]) (by kernel_rfl) (by simp) ?_
     refine AllReadyH.cons (o := _) rfl (fun K hK => ?_) (AllReadyH.cons (o := _) rfl (fun K hK => ?_) AllReadyH.nil)
     ·refine wp_app_nil (.tmp 145) (by rfl) (by rfl) hs (hsrcH.out.step (hsW.out.tail hs)) hones.out (by omega) ?_
      intro adA cA WA hsA hRA atA
      have hs := hs.tail hsA
      refine hK.out _ _ ?_ (fun hHeld => ?_)
      ·exact hall.out _ hs
      clear hK K
      have hfar : (Value.slice adA m cA).ownBlock ≠ some (WS).heap.size := fun e => by
       have hl := lt_of_block hD
       rcases atA with h | h
       ·rw [h] at e; cases e
       ·rw [h] at e; injection e with e; omega
      have hD := hsA.at hD (by simp)
      refine wpAnyH_ready (rs := [7]) (by kernel_rfl) (by simp) ?_
      refine AllReadyH.cons (o := _) rfl (fun K hK => ?_) AllReadyH.nil
      go_simp
      obtain ⟨WB, hWB⟩ : ∃ X, X = (WA).alloc (.cells #[.int .i64 k, .int .i64 n, .string s, .slice ba bn bc, .slice fa fn fc, .slice la ln lc] 35) := ⟨_, rfl⟩
      rw [← hWB]
      have hB : WB.heap[(WA).heap.size]? = some (.cells #[.int .i64 k, .int .i64 n, .string s, .slice ba bn bc, .slice fa fn fc, .slice la ln lc] 35 (0, 0)) := by rw [hWB]; exact heap_alloc_new _ _
      have hsB : Step [] id id WA WB := by rw [hWB]; exact Step.alloc _
      have hs := hs.tail hsB
      clear hWB
      refine hK.out _ _ ?_ (fun hHeld => ?_)
      ·exact hall.out _ hs
      clear hK K
      have hRA := hRA.on hsB
      have hD := hsB.at hD (by simp)
      refine wpAnyH_ready (rs := [8]) (by kernel_rfl) (by simp) ?_
      refine AllReadyH.cons (o := _) rfl (fun K hK => ?_) AllReadyH.nil
      refine wp_app_one (.tmp 146) (.tmp 148) (by rfl) (by rfl) (by rfl) hs hRA hB rfl honesX.out (by omega) ?_
      intro adC cC WC hsC hs hRC atC
      refine hK.out _ _ ?_ (fun hHeld => ?_)
      ·exact hall.out _ hs
      clear hK K
      refine tkH 9 ?_ rfl (by kernel_rfl) (fun _ _ _ h => h) ?_ hHeld ?_
      rotate_left
      ·intro w' hSw; (try dsimp only at hSw); go_simp
       all_goals (with_reducible rfl)
      simp only [zP, zO, zA, zB, zC, zD, zE, zF]
      have hfar2 : (Value.slice adC (m + 1) cC).ownBlock ≠ some (WS).heap.size := fun e => by
       have hl := lt_of_block hD
       rcases atC with h | h
       ·exact hfar (by rw [← h]; exact e)
       ·rw [h] at e; injection e with e; omega
      have hD := hsC.at hD (by simpa using hfar)
      have hDl := lt_of_block hD
      obtain ⟨z0, z1, z2, z3, z4, z5⟩ := cells6A hD
      have fz := free_blk hD
      refine wpAnyH_ready (rs := [11]) (by kernel_rfl) (by simp) ?_
      refine AllReadyH.cons (o := _) rfl (fun K hK => ?_) AllReadyH.nil
      go_simp
      obtain ⟨WF, hWF, hX, hs, hRF⟩ := laid_z hD hDn hs hRC hfar2 (.int .i64 7) (.int .i64 0) (.string ⟨#[]⟩) (.slice none 0 0) (.slice none 0 0) (.slice adC (m + 1) cC)
      change K _ (set6 WC (WS).heap.size (.int .i64 7) (.int .i64 0) (.string ⟨#[]⟩) (.slice none 0 0) (.slice none 0 0) (.slice adC (m + 1) cC))
      rw [← hWF]
      refine hK.out _ _ ?_ (fun hHeld => ?_)
      ·exact hall.out _ hs
      clear hK K
      refine wpAnyH_done (by kernel_rfl) ?_ _
      exact ⟨(WS).heap.size, adC, cC, .pointer (some ⟨M, 0, none⟩), .pointer (some ⟨M, 0, none⟩), .pointer (some ⟨M, 2, none⟩), .pointer (some ⟨M, 7, none⟩), .slice la0 m lc0, .slice adA m cA, .agg #[.int .i64 k, .int .i64 n, .string s, .slice ba bn bc, .slice fa fn fc, .slice la ln lc], .slice (some ⟨(WA).heap.size, 0, none⟩) 1 1, .slice adC (m + 1) cC, .agg #[.int .i64 7, .int .i64 0, (.string ⟨#[]⟩), (.slice none 0 0), (.slice none 0 0), .slice adC (m + 1) cC], by simp only [zP, zD, zE, zF], hX, hRF, hs⟩
     ·go_simp
      obtain ⟨WB, hWB⟩ : ∃ X, X = (WD).alloc (.cells #[.int .i64 k, .int .i64 n, .string s, .slice ba bn bc, .slice fa fn fc, .slice la ln lc] 35) := ⟨_, rfl⟩
      rw [← hWB]
      have hB : WB.heap[(WD).heap.size]? = some (.cells #[.int .i64 k, .int .i64 n, .string s, .slice ba bn bc, .slice fa fn fc, .slice la ln lc] 35 (0, 0)) := by rw [hWB]; exact heap_alloc_new _ _
      have hsB : Step [] id id WD WB := by rw [hWB]; exact Step.alloc _
      have hs := hs.tail hsB
      clear hWB
      refine hK.out _ _ ?_ (fun hHeld => ?_)
      ·exact hall.out _ hs
      clear hK K
      have hD := hsB.at hD (by simp)
      refine wpAnyH_ready (rs := [5]) (by kernel_rfl) (by simp) ?_
      refine AllReadyH.cons (o := _) rfl (fun K hK => ?_) AllReadyH.nil
      refine wp_app_nil (.tmp 145) (by rfl) (by rfl) hs (hsrcH.out.step (hsW.out.tail hs)) hones.out (by omega) ?_
      intro adA cA WA hsA hRA atA
      have hs := hs.tail hsA
      refine hK.out _ _ ?_ (fun hHeld => ?_)
      ·exact hall.out _ hs
      clear hK K
      have hfar : (Value.slice adA m cA).ownBlock ≠ some (WS).heap.size := fun e => by
       have hl := lt_of_block hD
       rcases atA with h | h
       ·rw [h] at e; cases e
       ·rw [h] at e; injection e with e; omega
      have hD := hsA.at hD (by simp)
      have hB := hsA.at hB (by simp)
      refine wpAnyH_ready (rs := [8]) (by kernel_rfl) (by simp) ?_
      refine AllReadyH.cons (o := _) rfl (fun K hK => ?_) AllReadyH.nil
      refine wp_app_one (.tmp 146) (.tmp 148) (by rfl) (by rfl) (by rfl) hs hRA hB rfl honesX.out (by omega) ?_
      intro adC cC WC hsC hs hRC atC
      refine hK.out _ _ ?_ (fun hHeld => ?_)
      ·exact hall.out _ hs
      clear hK K
      refine tkH 9 ?_ rfl (by kernel_rfl) (fun _ _ _ h => h) ?_ hHeld ?_
      rotate_left
      ·intro w' hSw; (try dsimp only at hSw); go_simp
       all_goals (with_reducible rfl)
      simp only [zP, zO, zA, zB, zC, zD, zE, zF]
      have hfar2 : (Value.slice adC (m + 1) cC).ownBlock ≠ some (WS).heap.size := fun e => by
       have hl := lt_of_block hD
       rcases atC with h | h
       ·exact hfar (by rw [← h]; exact e)
       ·rw [h] at e; injection e with e; omega
      have hD := hsC.at hD (by simpa using hfar)
      have hDl := lt_of_block hD
      obtain ⟨z0, z1, z2, z3, z4, z5⟩ := cells6A hD
      have fz := free_blk hD
      refine wpAnyH_ready (rs := [11]) (by kernel_rfl) (by simp) ?_
      refine AllReadyH.cons (o := _) rfl (fun K hK => ?_) AllReadyH.nil
      go_simp
      obtain ⟨WF, hWF, hX, hs, hRF⟩ := laid_z hD hDn hs hRC hfar2 (.int .i64 7) (.int .i64 0) (.string ⟨#[]⟩) (.slice none 0 0) (.slice none 0 0) (.slice adC (m + 1) cC)
      change K _ (set6 WC (WS).heap.size (.int .i64 7) (.int .i64 0) (.string ⟨#[]⟩) (.slice none 0 0) (.slice none 0 0) (.slice adC (m + 1) cC))
      rw [← hWF]
      refine hK.out _ _ ?_ (fun hHeld => ?_)
      ·exact hall.out _ hs
      clear hK K
      refine wpAnyH_done (by kernel_rfl) ?_ _
      exact ⟨(WS).heap.size, adC, cC, .pointer (some ⟨M, 0, none⟩), .pointer (some ⟨M, 0, none⟩), .pointer (some ⟨M, 2, none⟩), .pointer (some ⟨M, 7, none⟩), .slice la0 m lc0, .slice adA m cA, .agg #[.int .i64 k, .int .i64 n, .string s, .slice ba bn bc, .slice fa fn fc, .slice la ln lc], .slice (some ⟨(WD).heap.size, 0, none⟩) 1 1, .slice adC (m + 1) cC, .agg #[.int .i64 7, .int .i64 0, (.string ⟨#[]⟩), (.slice none 0 0), (.slice none 0 0), .slice adC (m + 1) cC], by simp only [zP, zD, zE, zF], hX, hRF, hs⟩
   intro ex a' w' hQ
   cases ex <;> try exact hQ.elim
   obtain ⟨Z, adC, cC, u1, u2, u3, u4, u5, u6, u7, u8, u9, u10, rfl, hX, hRF, hs⟩ := hQ
   simp only [zP, zD, zE, zF]
   obtain ⟨WF, hWF⟩ : ∃ X, X = w' := ⟨_, rfl⟩
   rw [← hWF] at hX hRF hs ⊢
   clear hWF c0 c1 c2 c3 c4 c5 c6 c7 b0 b1 b2 b3 b4 b5 fM hlM hlB
   have hM6 := hs.at hMH.out (by simp)
   have c1 := cell_blk hM6 (i := 1) rfl
   have c2 := cell_blk hM6 (i := 2) rfl
   have c3 := cell_blk hM6 (i := 3) rfl
   have c4 := cell_blk hM6 (i := 4) rfl
   have c5 := cell_blk hM6 (i := 5) rfl
   have c6 := cell_blk hM6 (i := 6) rfl
   have c7 := cell_blk hM6 (i := 7) rfl
   have fM := free_blk hM6
   have lM := lt_of_block hM6
   obtain ⟨x0, x1, x2, x3, x4, x5⟩ := cells6A hX
   have lX := lt_of_block hX
   have hvF := hmore.out WF adC cC (hsW.out.tail hs) hRF.row (fun k hk => Nat.le_trans hsW.out.size (hRF.new k hk))
   have hown := Lib.hid (ref_own hvF hqH.out)
   have hvFH := Lib.hid hvF
   have hsH := Lib.hid (hsW.out.tail hs)
   have hMXH := Lib.hid hM6
   have hXH := Lib.hid hX
   clear hvF hs hRF hM6 hX
   go_wp2_with fail
   refine hown.out.mono ?_
   rintro e w7 ⟨rfl, hs7⟩
   clear c1 c2 c3 c4 c5 c6 c7 fM lM x0 x1 x2 x3 x4 x5 lX
   have hM7 := hs7.at hMXH.out (by simp)
   have hX7 := hs7.at hXH.out (by simp)
   have c1 := cell_blk hM7 (i := 1) rfl
   have c2 := cell_blk hM7 (i := 2) rfl
   have c3 := cell_blk hM7 (i := 3) rfl
   have c4 := cell_blk hM7 (i := 4) rfl
   have c5 := cell_blk hM7 (i := 5) rfl
   have c6 := cell_blk hM7 (i := 6) rfl
   have c7 := cell_blk hM7 (i := 7) rfl
   have fM := free_blk hM7
   have lM := lt_of_block hM7
   obtain ⟨x0, x1, x2, x3, x4, x5⟩ := cells6A hX7
   have lX := lt_of_block hX7
   have hM7H := Lib.hid hM7
   have hs7H := Lib.hid (hsH.out.tail hs7)
   have hs76H := Lib.hid hs7
   clear hs7 hM7 hX7
   by_cases ho : ownV (listV (l ++ [x])) < 0
   ·have hoR : ownR (listV (l ++ [x])) = -1 := by unfold ownR; rw [if_pos ho]
    rw [hoR]
    have hoH := Lib.hid ho
    clear ho hoR
    go_wp2_with fail
    go_ret
    (try (unfold RSet; rw [if_neg (by rw [hanyH.out]; simp)]))
    unfold RPush
    rw [if_pos hoH.out]
    exact ⟨rfl, hM7H.out, hs7H.out.mono (fun _ h => by cases h)⟩
   ·have hoR : ownR (listV (l ++ [x])) = ownV (listV (l ++ [x])) := by unfold ownR; rw [if_neg ho]
    rw [hoR]
    have hoH := Lib.hid ho
    obtain ⟨O, hO⟩ : ∃ O, O = ownV (listV (l ++ [x])) := ⟨_, rfl⟩
    rw [← hO] at ho ⊢
    have hob : decide (O < 0) = false := decide_eq_false ho
    clear ho hO hoR
    go_wp2_with fail
    go_ret
    (try (unfold RSet; rw [if_neg (by rw [hanyH.out]; simp)]))
    unfold RPush
    rw [if_neg (by have := hoH.out; omega)]
    have hend := value_ends (u0 := .int .i64 7) (u1 := .int .i64 0) (u2 := (.string ⟨#[]⟩)) (u3 := (.slice none 0 0)) (u4 := (.slice none 0 0)) (u5 := .slice adC (m + 1) cC) hM7H.out hs7H.out
    refine ⟨_, _, _, _, _, _, hend, (hvFH.out.keep (w' := w7) (fun _ h => h) (fun k hk hl => (hs76H.out.keep k hl (by simp)).2)).keep (fun _ h => h) (fun k hP hl => ?_)⟩
    obtain ⟨-, -, hst⟩ := hend
    exact set_far (by
     rcases hP with h | h
     ·exact hPM.out k h
     ·exact h.2)
end
end Go.Proofs.YtembpajlllnncaaGreatDoor
