/- The law BsonSame: the walk. -/
import Derived.Test.YtbkmnhogfegmcaaDoorBsC7
import Derived.RegionTactic
import Derived.ChangeAlike
set_option linter.unusedVariables false
set_option linter.unusedSimpArgs false
namespace Go.Proofs.YtbkmnhogfegmcaaDoor
open Go.RowKit

theorem cells_of {w : World} {V : Nat} {v0 v1 v2 v3 v4 v5 : Value} {t : TypeId} (h : w.heap[V]? = some (.cells #[v0, v1, v2, v3, v4, v5] t (0, 0))) :
    w.cell? ⟨V, 0, none⟩ = some v0 ∧ w.cell? ⟨V, 1, none⟩ = some v1 ∧ w.cell? ⟨V, 2, none⟩ = some v2 ∧ w.cell? ⟨V, 3, none⟩ = some v3 ∧ w.cell? ⟨V, 4, none⟩ = some v4 ∧ w.cell? ⟨V, 5, none⟩ = some v5 :=
  ⟨cell_blk h (i := 0) rfl, cell_blk h (i := 1) rfl, cell_blk h (i := 2) rfl, cell_blk h (i := 3) rfl, cell_blk h (i := 4) rfl, cell_blk h (i := 5) rfl⟩

theorem bool_is {r b : Bool} {p : Prop} (h : r = true ↔ p) (h0 : p ↔ (b = true)) : r = b := by rw [Bool.eq_iff_iff, h, h0]
theorem s18 {w : World} {a b c : Nat} {x0 x1 x2 x3 x4 x5 x6 x7 x8 x9 x10 x11 x12 x13 x14 x15 x16 x17 : Value} {t : TypeId} (ha : w.heap[a]? = some (.cells #[x0, x1, x2, x3, x4, x5] t (0, 0))) (hb : w.heap[b]? = some (.cells #[x6, x7, x8, x9, x10, x11] t (0, 0))) (hc : w.heap[c]? = some (.cells #[x12, x13, x14, x15, x16, x17] t (0, 0))) :
    w.cell? ⟨a, 0, none⟩ = some x0 ∧ w.cell? ⟨a, 1, none⟩ = some x1 ∧ w.cell? ⟨a, 2, none⟩ = some x2 ∧ w.cell? ⟨a, 3, none⟩ = some x3 ∧ w.cell? ⟨a, 4, none⟩ = some x4 ∧ w.cell? ⟨a, 5, none⟩ = some x5 ∧ w.cell? ⟨b, 0, none⟩ = some x6 ∧ w.cell? ⟨b, 1, none⟩ = some x7 ∧ w.cell? ⟨b, 2, none⟩ = some x8 ∧ w.cell? ⟨b, 3, none⟩ = some x9 ∧ w.cell? ⟨b, 4, none⟩ = some x10 ∧ w.cell? ⟨b, 5, none⟩ = some x11 ∧ w.cell? ⟨c, 0, none⟩ = some x12 ∧ w.cell? ⟨c, 1, none⟩ = some x13 ∧ w.cell? ⟨c, 2, none⟩ = some x14 ∧ w.cell? ⟨c, 3, none⟩ = some x15 ∧ w.cell? ⟨c, 4, none⟩ = some x16 ∧ w.cell? ⟨c, 5, none⟩ = some x17 := by
  obtain ⟨a0, a1, a2, a3, a4, a5⟩ := cells_of ha
  obtain ⟨b0, b1, b2, b3, b4, b5⟩ := cells_of hb
  obtain ⟨c0, c1, c2, c3, c4, c5⟩ := cells_of hc
  exact ⟨a0, a1, a2, a3, a4, a5, b0, b1, b2, b3, b4, b5, c0, c1, c2, c3, c4, c5⟩
set_option maxRecDepth 100000 in
set_option maxHeartbeats 8000000 in
theorem law_same {w : World} {x y : Val} {cs ds : List Value} (ht : Tw w) (hx : VIs (fun k => k < w.heap.size) w x cs) (hy : VIs (fun k => k < w.heap.size) w y ds) : Calls Tryd.prog 8 #[.agg cs.toArray, .agg ds.toArray] w fun e w' => e = .returned (.bool true) ∧ Step [] id id w w' := by
  obtain ⟨S1, ba1, bn1, bc1, fa1, fn1, fc1, la1, ln1, lc1, hcs, -⟩ := hx.six
  obtain ⟨S2, ba2, bn2, bc2, fa2, fn2, fc2, la2, ln2, lc2, hds, -⟩ := hy.six
  obtain ⟨n1, hn1⟩ : ∃ k, k = x.num := ⟨_, rfl⟩
  obtain ⟨k1, hk1⟩ : ∃ k, k = x.kind := ⟨_, rfl⟩
  obtain ⟨n2, hn2⟩ : ∃ k, k = y.num := ⟨_, rfl⟩
  obtain ⟨k2, hk2⟩ : ∃ k, k = y.kind := ⟨_, rfl⟩
  rw [← hk1, ← hn1] at hcs
  rw [← hk2, ← hn2] at hds
  subst hcs hds
  obtain ⟨W1, hW1⟩ : ∃ W1, W1 = w.alloc (.cells #[.int .i64 k1, .int .i64 n1, .string S1, .slice ba1 bn1 bc1, .slice fa1 fn1 fc1, .slice la1 ln1 lc1] 27) := ⟨_, rfl⟩
  obtain ⟨W2, hW2⟩ : ∃ W2, W2 = W1.alloc (.cells #[.int .i64 k2, .int .i64 n2, .string S2, .slice ba2 bn2 bc2, .slice fa2 fn2 fc2, .slice la2 ln2 lc2] 27) := ⟨_, rfl⟩
  have z1 : W1.heap.size = w.heap.size + 1 := by rw [hW1]; simp
  have z2 : W2.heap.size = w.heap.size + 2 := by rw [hW2, hW1]; simp
  have hs2 : Step [] id id w W2 := by rw [hW2, hW1]; exact (Step.alloc _).tail (Step.alloc _)
  have hV1 := Lib.hid (show W2.heap[w.heap.size]? = some (.cells #[.int .i64 k1, .int .i64 n1, .string S1, .slice ba1 bn1 bc1, .slice fa1 fn1 fc1, .slice la1 ln1 lc1] 27 (0, 0)) by rw [hW2]; refine alloc_old ?_; rw [hW1]; exact heap_alloc_new w _)
  have hV2 := Lib.hid (show W2.heap[w.heap.size + 1]? = some (.cells #[.int .i64 k2, .int .i64 n2, .string S2, .slice ba2 bn2 bc2, .slice fa2 fn2 fc2, .slice la2 ln2 lc2] 27 (0, 0)) by rw [hW2, ← z1]; exact heap_alloc_new W1 _)
  have hs2H := Lib.hid hs2
  have hW1H := Lib.hid hW1
  have hW2H := Lib.hid hW2
  have hxH := Lib.hid hx
  have hyH := Lib.hid hy
  have htH := Lib.hid ht
  clear hx hy ht hn1 hk1 hn2 hk2 hs2 hW1 hW2 z1
  go_enter Tryd.func8, Tryd.ntmps8
  go_wp2_with fail
  rw [← hW1H.out, ← hW2H.out]
  refine (bs_awake W2 (htH.out.step hs2H.out)).mono ?_
  rintro e w3 ⟨rfl, hs3⟩
  obtain ⟨a0, a1, a2, a3, a4, a5⟩ := cells_of (hs3.at hV1.out (by simp))
  have hl1 := lt_of_block (hs3.at hV1.out (by simp))
  have hs3H := Lib.hid hs3
  clear hs3
  go_wp2_with fail
  refine (bs_small (hxH.out.onto (hs2H.out.tail hs3H.out))).mono ?_
  rintro e w4 ⟨r4, rfl, hw4, hs4⟩
  have hs4H := Lib.hid (hs3H.out.tail hs4)
  have hw4H := Lib.hid hw4
  clear hs4 hw4 a0 a1 a2 a3 a4 a5 hl1
  cases r4
  · go_wp2_with fail
    go_ret
    exact ⟨rfl, hs2H.out.tail hs4H.out⟩
  obtain ⟨b0, b1, b2, b3, b4, b5⟩ := cells_of (hs4H.out.at hV2.out (by simp))
  have hl2 := lt_of_block (hs4H.out.at hV2.out (by simp))
  have hwx := Lib.hid (hw4H.out rfl)
  go_wp2_with fail
  refine (bs_small (hyH.out.onto (hs2H.out.tail hs4H.out))).mono ?_
  rintro e w5 ⟨r5, rfl, hw5, hs5⟩
  have hs5H := Lib.hid (hs4H.out.tail hs5)
  clear hs5 hw5 b0 b1 b2 b3 b4 b5 hl2
  cases r5
  · go_wp2_with fail
    go_ret
    exact ⟨rfl, hs2H.out.tail hs5H.out⟩
  obtain ⟨a0, a1, a2, a3, a4, a5⟩ := cells_of (hs5H.out.at hV1.out (by simp))
  have hl1 := lt_of_block (hs5H.out.at hV1.out (by simp))
  go_wp2_with fail
  refine (bs_copy hwx.out (hxH.out.onto (hs2H.out.tail hs5H.out))).mono ?_
  rintro e w6 h
  obtain ⟨ba, bc, fa, fc, la, lc, xs, ys, rfl, hb, hf, hl, hfr, hlr, hs6, m1, m2, m3⟩ := h
  have hwl := weight_f hwx.out
  have hfw := weightFs_len x.f
  have hls := Lib.hid (show (strOf x.s) = strOf x.s from rfl)
  obtain ⟨n9, hn9⟩ : ∃ k, k = x.num := ⟨_, rfl⟩
  obtain ⟨k9, hk9⟩ : ∃ k, k = x.kind := ⟨_, rfl⟩
  obtain ⟨s9, hs9⟩ : ∃ k, k = strOf x.s := ⟨_, rfl⟩
  obtain ⟨bn, hbn⟩ : ∃ k, k = x.b.length := ⟨_, rfl⟩
  obtain ⟨ln, hlnn⟩ : ∃ k, k = x.l.length := ⟨_, rfl⟩
  obtain ⟨fn, hfnn⟩ : ∃ k, k = x.f.length := ⟨_, rfl⟩
  have hbn3 : bn ≤ 3000 := by omega
  have hfn3 : fn ≤ 3000 := by omega
  rw [← hn9, ← hk9, ← hs9, ← hbn, ← hlnn, ← hfnn]
  rw [← hbn] at hb
  rw [← hfnn] at hf
  rw [← hlnn] at hl
  rw [← hbn, ← hlnn, ← hfnn] at hfr hlr
  rw [← hbn] at m1
  rw [← hbn, ← hfnn] at m2
  rw [← hbn, ← hfnn, ← hlnn] at m3
  obtain ⟨W7, hW7⟩ : ∃ W7, W7 = w6.alloc (.cells #[.int .i64 k9, .int .i64 n9, .string s9, .slice ba bn bc, .slice fa fn fc, .slice la ln lc] 27) := ⟨_, rfl⟩
  obtain ⟨C, hC⟩ : ∃ C, C = w6.heap.size := ⟨_, rfl⟩
  have hs67 : Step [] id id w6 W7 := by rw [hW7]; exact Step.alloc _
  have hC7 : W7.heap[C]? = some (.cells #[.int .i64 k9, .int .i64 n9, .string s9, .slice ba bn bc, .slice fa fn fc, .slice la ln lc] 27 (0, 0)) := by rw [hW7, hC]; exact heap_alloc_new _ _
  have hC7z : W7.heap.size = C + 1 := by rw [hW7, hC]; simp
  have hb7 : Row W7 (.slice ba bn bc) x.b := ownsRow_step hb hs67 (fun k _ => by simp)
  have hf7 := ownsRow_step hf hs67 (fun k _ => by simp)
  have hl7 := ownsRow_step hl hs67 (fun k _ => by simp)
  have hbl : ∀ k, (Value.slice ba bn bc).ownBlock = some k → k < C := fun k hk => by rw [hC]; exact (World.ownsRow.lt hb k hk).2
  have hfl : ∀ k, (Value.slice fa fn fc).ownBlock = some k → k < C := fun k hk => by rw [hC]; exact (World.ownsRow.lt hf k hk).2
  have hll : ∀ k, (Value.slice la ln lc).ownBlock = some k → k < C := fun k hk => by rw [hC]; exact (World.ownsRow.lt hl k hk).2
  have hfr7 : FRow (fun _ k => Within w5 (.slice ba bn bc) (.slice fa fn fc) (.slice la ln lc) k ∧ k < C) W7 (renF 0 x.f) xs := by
    rw [renF_zero]
    refine ⟨hfr.1, fun i hi => ?_⟩
    obtain ⟨h1, cs, h2, h3⟩ := hfr.2 i hi
    exact ⟨h1, cs, h2, (VIs.below _ cs h3).keep (fun k hk => ⟨hk.1, by rw [hC]; exact hk.2⟩) (fun k hk hl => (hs67.keep k hl (by simp)).2)⟩
  have hlr7 : LRow (fun _ k => Within w5 (.slice ba bn bc) (.slice fa fn fc) (.slice la ln lc) k ∧ k < C) W7 x.l ys :=
    ⟨hlr.1, fun i hi => (VIs.below _ _ (hlr.2 i hi)).keep (fun k hk => ⟨hk.1, by rw [hC]; exact hk.2⟩) (fun k hk hl => (hs67.keep k hl (by simp)).2)⟩
  have hz5 : w.heap.size + 2 ≤ w5.heap.size := by rw [← z2]; exact hs5H.out.size
  have hz56 : w5.heap.size ≤ C := by rw [hC]; exact hs6.size
  have hs27 := Lib.hid (hs5H.out.tail (hs6.tail hs67))
  have hz25 : W2.heap.size ≤ w5.heap.size := hs5H.out.size
  have hsw7 := Lib.hid (hs2H.out.tail (hs5H.out.tail (hs6.tail hs67)))
  have hW7H := Lib.hid hW7
  have hCH := Lib.hid hC
  have hC7H := Lib.hid hC7
  have hb7H := Lib.hid hb7
  have hf7H := Lib.hid hf7
  have hl7H := Lib.hid hl7
  have hfr7H := Lib.hid hfr7
  have hlr7H := Lib.hid hlr7
  have m1H := Lib.hid m1
  have m2H := Lib.hid m2
  have m3H := Lib.hid m3
  have hblH := Lib.hid hbl
  have hflH := Lib.hid hfl
  have hllH := Lib.hid hll
  have hbnH := Lib.hid hbn
  have hlnH := Lib.hid hlnn
  have hfnH := Lib.hid hfnn
  have hn9H := Lib.hid hn9
  have hk9H := Lib.hid hk9
  have hs9H := Lib.hid hs9
  have hwlH := Lib.hid hwl
  clear hb hf hl hfr hlr hs6 m1 m2 m3 hs67 hC7 hb7 hf7 hl7 hfr7 hlr7 hbl hfl hll hbn hlnn hfnn hn9 hk9 hs9 hwl hfw hls hW7 a0 a1 a2 a3 a4 a5 hl1
  go_wp2_with fail
  rw [← hW7H.out, ← hCH.out]
  clear hC
  go_loopw [6] (fun i wr => ∃ j : Nat, i = .int .i64 j ∧ j ≤ fn ∧ ∃ xs, wr.ownsRow 0 44 7 (.slice fa fn fc) fn xs ∧ FRow (fun _ k => Within w5 (.slice ba bn bc) (.slice fa fn fc) (.slice la ln lc) k ∧ k < C) wr (renF j x.f) xs ∧ Step (Value.slice fa fn fc).ownBlock.toList id id W7 wr) (fun i _ => fn - (intOf i).toNat)
  case atStart => exact ⟨0, rfl, Nat.zero_le _, xs, hf7H.out, hfr7H.out, Step.refl _ _ _⟩
  case round =>
    obtain ⟨j, rfl, hj, us, hown, hrow, hst⟩ := hrel
    have hCr := hst.at hC7H.out (by intro h; have h2 : C < C := hflH.out _ (by simpa using h); omega)
    obtain ⟨v0, v1, v2, v3, v4, v5⟩ := cells_of hCr
    have hCl := lt_of_block hCr
    by_cases hjl : j < fn
    · have hjl1 : (j : Int) < (fn : Int) := by omega
      have hj0 : (0 : Int) ≤ (j : Int) := by omega
      obtain ⟨g, hva⟩ : ∃ g, fa = some ⟨g, 0, none⟩ := by
        rcases hown.2 with ⟨e, -⟩ | ⟨g, cap, cur, e, -⟩
        · injection e with _ e2 _; omega
        · injection e with e1 _ _; exact ⟨g, e1⟩
      subst hva
      have hgC : g < C := hflH.out g rfl
      have hjx : j < x.f.length := by rw [← hfnH.out]; exact hjl
      obtain ⟨hnl, cs, hpc, hxj⟩ := hrow.2 j (by simpa using hjx)
      rw [renF_get j x.f j hjx, if_neg (Nat.lt_irrefl _)] at hpc
      obtain ⟨nm, hnm⟩ : ∃ nm, nm = strOf x.f[j].1 := ⟨_, rfl⟩
      rw [← hnm] at hpc
      have q0 : wr.cell? ⟨g, j * 7, none⟩ = some (.string nm) := by
        have h8 := World.ownsRow.cells hown (g := g) rfl (j * 7) (.string nm) (by rw [show j * 7 = j * 7 + 0 from rfl, ← piece_get 7 us j 0 (by omega), hpc]; rfl)
        rw [addr_add, Nat.zero_add] at h8
        exact h8
      have f0 := World.ownsRow.frozenAt hown (j * 7)
      have hgr : g < wr.heap.size := World.block_lt_of_cell? wr _ q0
      have hwrap : IntKind.i64.wrap ((j : Int) + 1) = (j : Int) + 1 := IntWalk.i64_in _ (by omega)
      have hgne : g ≠ C := by omega
      have hnl3 : x.f[j].1.length ≤ 3000 := by have h1 := weightFs_name x.f j hjx; have h2 := hwlH.out.2.2.1; omega
      have hnz : ¬ 9223372036854775807 < nm.size + 1 := by rw [hnm, strOf_size]; omega
      have hownH := Lib.hid hown
      have hrowH := Lib.hid hrow
      have hstH := Lib.hid hst
      have hnmH := Lib.hid hnm
      clear hown hrow hst hCr hnl hpc hxj hnm
      go_wp2_with fail
      go_region
      clear q0 f0 v0 v1 v2 v3 v4 v5 hCl
      go_wp2_with fail
      go_roundw
      case rel =>
        have hst8 := World.ownsRow.stored hownH.out (j * 7) (.string (nm ++ ⟨#[120]⟩))
        obtain ⟨h10, hg10⟩ := hst8
        have hs10 : Step [g] id id wr (wr.setCell ⟨g, j * 7, none⟩ (.string (nm ++ ⟨#[120]⟩))).drew := Step.tail (Step.grown hg10 (fun k hk => by cases hk; simp)) Step.drew
        have hnm2 : nm ++ ⟨#[120]⟩ = strOf (x.f[j].1 ++ [120]) := by rw [hnmH.out, ← strOf_app]; rfl
        refine ⟨j + 1, by go_num, by omega, _, ownsRow_step h10 (Step.drew (T := [])) (fun k _ => by simp), ?_, hstH.out.tail hs10⟩
        rw [hnm2] at hs10 ⊢
        exact (hrowH.out.rename hjx hnl3).keep (fun _ _ h => h) (fun i k hP hk => (hs10.keep k hk (by
          simp only [List.mem_singleton]
          intro e
          have e2 : k = g := e
          exact hP.1.2.2.1 (by rw [e2]; rfl))).2)
      case measure => simp [intOf]; omega
    · have hjl1 : ¬ (j : Int) < (fn : Int) := by omega
      obtain rfl : j = fn := by omega
      have hbX : Row wr (.slice ba bn bc) x.b := ownsRow_step hb7H.out hst (fun k hk hm => (m2H.out k (by simpa using hm)).2 hk)
      have hlX := ownsRow_step hl7H.out hst (fun k hk hm => (m3H.out k hk).2.2 (by simpa using hm))
      have hlrX := hlr7H.out.keep (P2 := fun _ k => Within w5 (.slice ba bn bc) (.slice fa j fc) (.slice la ln lc) k ∧ k < C) (w' := wr) (fun _ _ h => h) (fun i k hP hk => (hst.keep k hk (fun hm => hP.1.2.2.1 (by simpa using hm))).2)
      have hzX : W7.heap.size ≤ wr.heap.size := hst.size
      have hsXw : Step [] id id w wr := hsw7.out.tailNew hst (fun r hr => .inr (by have := (m2H.out r (by simpa using hr)).1; omega))
      have hs2X := hs27.out.tailNew hst (fun r hr => .inr (by have := (m2H.out r (by simpa using hr)).1; omega))
      have hs2XH := Lib.hid hs2X
      obtain ⟨X, hX⟩ : ∃ X, X = wr := ⟨_, rfl⟩
      have hCX := Lib.hid hCr
      have hbXH := Lib.hid hbX
      have hlXH := Lib.hid hlX
      have hlrXH := Lib.hid hlrX
      have hownXH := Lib.hid hown
      have hrowXH := Lib.hid hrow
      have hsXH := Lib.hid hsXw
      clear hbX hlX hlrX hown hrow hsXw hst hCr hs2X
      go_wp2_with fail
      rw [← hX] at hCX hbXH hlXH hlrXH hownXH hrowXH hsXH hs2XH hzX ⊢
      clear hX v0 v1 v2 v3 v4 v5 hCl
      go_loopw [7] (fun i wq => ∃ q : Nat, i = .int .i64 q ∧ q ≤ bn ∧ Row wq (.slice ba bn bc) (incB q x.b) ∧ Step (Value.slice ba bn bc).ownBlock.toList id id X wq) (fun i _ => bn - (intOf i).toNat)
      case atStart => exact ⟨0, rfl, Nat.zero_le _, by rw [incB_zero]; exact hbXH.out, Step.refl _ _ _⟩
      case round =>
        obtain ⟨q, rfl, hq, hrow, hst⟩ := hrel
        have hCr := hst.at hCX.out (by intro h; have h2 : C < C := hblH.out _ (by simpa using h); omega)
        obtain ⟨v0, v1, v2, v3, v4, v5⟩ := cells_of hCr
        have hCl := lt_of_block hCr
        by_cases hql : q < bn
        · have hql1 : (q : Int) < (bn : Int) := by omega
          have hq0 : (0 : Int) ≤ (q : Int) := by omega
          obtain ⟨g, hva⟩ : ∃ g, ba = some ⟨g, 0, none⟩ := by
            rcases hrow.2 with ⟨e, -⟩ | ⟨g, cap, cur, e, -⟩
            · injection e with _ e2 _; omega
            · injection e with e1 _ _; exact ⟨g, e1⟩
          subst hva
          have hgC : g < C := hblH.out g rfl
          have hjx : q < x.b.length := by rw [← hbnH.out]; exact hql
          obtain ⟨u, hu⟩ : ∃ u, u = x.b[q] := ⟨_, rfl⟩
          have q0 : wr.cell? ⟨g, q, none⟩ = some (.int .u8 (u.toNat : Int)) := by
            unfold Row at hrow
            have h8 := World.ownsRow.cells hrow (g := g) rfl q (.int .u8 (u.toNat : Int)) (by
              rw [byteVals, List.getElem?_map, List.getElem?_eq_getElem (by simpa using hjx), incB_get q x.b q hjx, if_neg (Nat.lt_irrefl _), ← hu]; rfl)
            rw [addr_add, Nat.zero_add] at h8
            exact h8
          have f0 : wr.frozen? ⟨g, q, none⟩ = false := by
            unfold Row at hrow
            rw [incB_len, ← hbnH.out] at hrow
            exact World.ownsRow.frozenAt hrow q
          have hgr : g < wr.heap.size := World.block_lt_of_cell? wr _ q0
          have hwrap : IntKind.i64.wrap ((q : Int) + 1) = (q : Int) + 1 := IntWalk.i64_in _ (by omega)
          have hu1 := Lib.hid (show ((u.toNat : Int) + 1) % 256 = ((u + 1).toNat : Int) by rw [UInt8.toNat_add]; simp)
          have hgne : g ≠ C := by omega
          have hrowH := Lib.hid hrow
          have hstH := Lib.hid hst
          have huH := Lib.hid hu
          clear hrow hst hCr hu
          go_wp2_with fail
          clear q0 f0 v0 v1 v2 v3 v4 v5 hCl
          go_roundw
          case rel =>
            obtain ⟨h10, hg10⟩ := row_put hrowH.out (by rw [incB_len, ← hbnH.out]) q (by simpa using hjx) (u + 1)
            rw [huH.out, incB_set q x.b hjx] at h10
            refine ⟨q + 1, by go_num, by omega, ?_, hstH.out.tail ?_⟩
            · rw [← huH.out, ← hu1.out] at h10; exact h10
            · rw [← hu1.out] at hg10; exact .grown hg10 (fun k hk => by cases hk; exact List.mem_singleton.2 rfl)
          case measure => simp [intOf]; omega
        · have hql1 : ¬ (q : Int) < (bn : Int) := by omega
          obtain rfl : q = bn := by omega
          have hT : ∀ r ∈ (Value.slice ba q bc).ownBlock.toList, w5.heap.size ≤ r := fun r hr => m1H.out r (by simpa using hr)
          have hX5 : w5.heap.size ≤ X.heap.size := by omega
          have hs2r := hs2XH.out.tailNew hst (fun r hr => .inr (by have := hT r hr; omega))
          have hswr : Step [] id id w wr := hs2H.out.tail hs2r
          have hfX := ownsRow_step hownXH.out hst (fun k hk hm => (m2H.out k hk).2 (by simpa using hm))
          have hlX := ownsRow_step hlXH.out hst (fun k hk hm => (m3H.out k hk).2.1 (by simpa using hm))
          have hfrX := hrowXH.out.keep (P2 := fun _ _ => True) (w' := wr) (fun _ _ _ => trivial) (fun i k hP hk => (hst.keep k hk (fun hm => hP.1.2.1 (by simpa using hm))).2)
          have hlrX := hlrXH.out.keep (P2 := fun _ _ => True) (w' := wr) (fun _ _ _ => trivial) (fun i k hP hk => (hst.keep k hk (fun hm => hP.1.2.1 (by simpa using hm))).2)
          obtain ⟨z, hz⟩ : ∃ z, z = Val.mk k9 n9 x.s (incB q x.b) (renF j x.f) x.l := ⟨_, rfl⟩
          have hVz : VIs (fun _ => True) wr z [.int .i64 k9, .int .i64 n9, .string s9, .slice ba q bc, .slice fa j fc, .slice la ln lc] := by
            obtain ⟨_, _, _, _, _, _, _, _, hk, hlen, _, _⟩ := hxH.out.cells
            have e1 : (renF j x.f).length = j := by rw [renF_len, ← hfnH.out]
            have e2 : (incB q x.b).length = q := by rw [incB_len, ← hbnH.out]
            obtain ⟨f1, f2, f3⟩ := hfrX.is (Q := fun _ => True) (va := fa) (vc := fc) (by rw [e1]; exact hfX) (fun _ _ _ => trivial) (fun _ _ => trivial)
            obtain ⟨g1, g2, g3⟩ := hlrX.is (Q := fun _ => True) (va := la) (vc := lc) (by rw [← hlnH.out]; exact hlX) (fun _ _ _ => trivial) (fun _ _ => trivial)
            have hkx : k9 = x.kind := hk9H.out
            have hnx : n9 = x.num := hn9H.out
            rw [hz]
            refine VIs.mk ⟨.slice ba q bc, fa, fc, la, lc, ?_, ?_, ⟨f2, g2, f3, g3⟩, ?_, ?_, f1, g1⟩
            · show _ = [Value.int .i64 k9, .int .i64 n9, .string (strOf x.s), .slice ba q bc, .slice fa (renF j x.f).length fc, .slice la x.l.length lc]
              rw [e1, hs9H.out, ← hlnH.out]
            · show BIn (fun _ => True) wr (.slice ba q bc) (incB q x.b)
              exact hrow.bin.keep (fun _ _ => trivial) (fun _ _ _ => rfl)
            · show -9223372036854775808 ≤ k9 ∧ k9 ≤ 9223372036854775807 ∧ -9223372036854775808 ≤ n9 ∧ n9 ≤ 9223372036854775807
              rw [hkx, hnx]; exact hk
            · show x.s.length ≤ 140737488351232 ∧ (incB q x.b).length ≤ 140737488351232 ∧ (renF j x.f).length ≤ 140737488351232 ∧ x.l.length ≤ 140737488351232
              rw [renF_len, incB_len]; exact hlen
          have hxz : x = z ↔ (j = 0 ∧ q = 0) := by
            rw [val_eq, hz]
            show (x.kind = k9 ∧ x.num = n9 ∧ x.s = x.s ∧ x.b = incB q x.b ∧ x.f = renF j x.f ∧ x.l = x.l) ↔ _
            have e1 := renF_same x.f
            have e2 := incB_same x.b
            rw [← hfnH.out] at e1
            rw [← hbnH.out] at e2
            rw [e1, e2]
            constructor
            · rintro ⟨_, _, _, h1, h2, _⟩
              exact ⟨by rw [hfnH.out, h2]; rfl, by rw [hbnH.out, h1]; rfl⟩
            · rintro ⟨h1, h2⟩
              exact ⟨hk9H.out.symm, hn9H.out.symm, rfl, List.eq_nil_of_length_eq_zero (by rw [← hbnH.out]; exact h2), List.eq_nil_of_length_eq_zero (by rw [← hfnH.out]; exact h1), rfl⟩
          have hvx := hxH.out.onto hswr
          have hvy := hyH.out.onto hswr
          have cSame := Lib.hid (fun (W : World) (hW : Step [] id id wr W) => bs_same (P := fun _ => True) (hvx.keep (P2 := fun _ => True) (fun _ _ => trivial) (fun k hP hk => (hW.keep k hk (by simp)).2)) (hvy.keep (P2 := fun _ => True) (fun _ _ => trivial) (fun k hP hk => (hW.keep k hk (by simp)).2)))
          have cRef := Lib.hid (fun (W : World) (hW : Step [] id id wr W) => ref_same (P := fun _ => True) (hvx.keep (P2 := fun _ => True) (fun _ _ => trivial) (fun k hP hk => (hW.keep k hk (by simp)).2)) (hvy.keep (P2 := fun _ => True) (fun _ _ => trivial) (fun k hP hk => (hW.keep k hk (by simp)).2)))
          have cAA := Lib.hid (fun (W : World) (hW : Step [] id id wr W) => bs_same (P := fun _ => True) (hvx.keep (P2 := fun _ => True) (fun _ _ => trivial) (fun k hP hk => (hW.keep k hk (by simp)).2)) (hvx.keep (P2 := fun _ => True) (fun _ _ => trivial) (fun k hP hk => (hW.keep k hk (by simp)).2)))
          have cAC := Lib.hid (fun (W : World) (hW : Step [] id id wr W) => bs_same (P := fun _ => True) (hvx.keep (P2 := fun _ => True) (fun _ _ => trivial) (fun k hP hk => (hW.keep k hk (by simp)).2)) (hVz.keep (P2 := fun _ => True) (fun _ _ => trivial) (fun k hP hk => (hW.keep k hk (by simp)).2)))
          have hVaH := Lib.hid (hs2r.at hV1.out (by simp))
          have hVbH := Lib.hid (hs2r.at hV2.out (by simp))
          have hVcH := Lib.hid hCr
          have hswrH := Lib.hid hswr
          have hxzH := Lib.hid hxz
          clear hvx hvy hVz hs2r hswr hfX hlX hfrX hlrX hz hxz hrow hst hCr hT
          by_cases hch : j = 0 ∧ q = 0
          · have hch1 : ¬ (0 : Int) < (j : Int) + (q : Int) := by omega
            have hc0 := Lib.hid (fun (r : Bool) (h : r = true ↔ x = z) => bool_is (b := true) h (by rw [hxzH.out]; simp [hch]))
            clear hch
            by_cases hxy : x = y
            · have hb0 := Lib.hid (fun (r : Bool) (h : r = true ↔ x = y) => bool_is (b := true) h (by simp [hxy]))
              go_wp2_with fail
              refine wp_region_held_drew (S := fun w' => w'.cell? ⟨w.heap.size, 0, none⟩ = some (.int .i64 k1) ∧ w'.cell? ⟨w.heap.size, 1, none⟩ = some (.int .i64 n1) ∧ w'.cell? ⟨w.heap.size, 2, none⟩ = some (.string S1) ∧ w'.cell? ⟨w.heap.size, 3, none⟩ = some (.slice ba1 bn1 bc1) ∧ w'.cell? ⟨w.heap.size, 4, none⟩ = some (.slice fa1 fn1 fc1) ∧ w'.cell? ⟨w.heap.size, 5, none⟩ = some (.slice la1 ln1 lc1) ∧ w'.cell? ⟨w.heap.size + 1, 0, none⟩ = some (.int .i64 k2) ∧ w'.cell? ⟨w.heap.size + 1, 1, none⟩ = some (.int .i64 n2) ∧ w'.cell? ⟨w.heap.size + 1, 2, none⟩ = some (.string S2) ∧ w'.cell? ⟨w.heap.size + 1, 3, none⟩ = some (.slice ba2 bn2 bc2) ∧ w'.cell? ⟨w.heap.size + 1, 4, none⟩ = some (.slice fa2 fn2 fc2) ∧ w'.cell? ⟨w.heap.size + 1, 5, none⟩ = some (.slice la2 ln2 lc2) ∧ w'.cell? ⟨C, 0, none⟩ = some (.int .i64 k9) ∧ w'.cell? ⟨C, 1, none⟩ = some (.int .i64 n9) ∧ w'.cell? ⟨C, 2, none⟩ = some (.string s9) ∧ w'.cell? ⟨C, 3, none⟩ = some (.slice ba q bc) ∧ w'.cell? ⟨C, 4, none⟩ = some (.slice fa j fc) ∧ w'.cell? ⟨C, 5, none⟩ = some (.slice la ln lc)) (by kernel_rfl) (s18 hVaH.out hVbH.out hVcH.out) (fun hHeld => ?_)
              refine wpAnyH_take (i := 0) (v := ?_) rfl (by kernel_rfl) (by kernel_rfl) (by kernel_rfl) (fun _ _ _ h => h) (Or.inl ⟨by kernel_rfl, ?_⟩) hHeld ?_
              rotate_left
              · intro w' hSw; (try dsimp only at hSw); go_simp
                all_goals (with_reducible rfl)
              simp only [Act.put, List.getElem_toArray, List.getElem_cons_zero, List.getElem_cons_succ, List.setIfInBounds_toArray, List.set_cons_zero, List.set_cons_succ]
              refine wpAnyH_take (i := 1) (v := ?_) rfl (by kernel_rfl) (by kernel_rfl) (by kernel_rfl) (fun _ _ _ h => h) (Or.inl ⟨by kernel_rfl, ?_⟩) hHeld ?_
              rotate_left
              · intro w' hSw; (try dsimp only at hSw); go_simp
                all_goals (with_reducible rfl)
              simp only [Act.put, List.getElem_toArray, List.getElem_cons_zero, List.getElem_cons_succ, List.setIfInBounds_toArray, List.set_cons_zero, List.set_cons_succ]
              refine wpAnyH_take (i := 3) (v := ?_) rfl (by kernel_rfl) (by kernel_rfl) (by kernel_rfl) (fun _ _ _ h => h) (Or.inl ⟨by kernel_rfl, ?_⟩) hHeld ?_
              rotate_left
              · intro w' hSw; (try dsimp only at hSw); go_simp
                all_goals (with_reducible rfl)
              simp only [Act.put, List.getElem_toArray, List.getElem_cons_zero, List.getElem_cons_succ, List.setIfInBounds_toArray, List.set_cons_zero, List.set_cons_succ]
              refine wpAnyH_take (i := 4) (v := ?_) rfl (by kernel_rfl) (by kernel_rfl) (by kernel_rfl) (fun _ _ _ h => h) (Or.inl ⟨by kernel_rfl, ?_⟩) hHeld ?_
              rotate_left
              · intro w' hSw; (try dsimp only at hSw); go_simp
                all_goals (with_reducible rfl)
              simp only [Act.put, List.getElem_toArray, List.getElem_cons_zero, List.getElem_cons_succ, List.setIfInBounds_toArray, List.set_cons_zero, List.set_cons_succ]
              refine wpAnyH_ready (rs := [2]) (by kernel_rfl) (by simp) ?_
              refine AllReadyH.cons (o := _) rfl (fun K hK => ?_) AllReadyH.nil
              go_simp
              refine (cSame.out wr.drew Step.drew).mono ?_
              rintro e u1 ⟨r1, rfl, hr1, hu1⟩
              have hu1H := Lib.hid (show Step [] id id wr u1 from Step.tail Step.drew hu1)
              obtain rfl := hb0.out r1 hr1
              have ha1 := Step.at hu1H.out hVaH.out (by simp)
              have hb1 := Step.at hu1H.out hVbH.out (by simp)
              have hc1 := Step.at hu1H.out hVcH.out (by simp)
              have hq1 := s18 ha1 hb1 hc1
              clear ha1 hb1 hc1
              clear hr1 hu1
              go_wp2_with fail
              refine hK.out _ _ ?_ (fun hHeld => ?_)
              · exact hq1
              clear hK K
              refine wpAnyH_ready (rs := [5]) (by kernel_rfl) (by simp) ?_
              refine AllReadyH.cons (o := _) rfl (fun K hK => ?_) AllReadyH.nil
              go_simp
              refine (cRef.out _ hu1H.out).mono ?_
              rintro e u2 ⟨r2, rfl, hr2, hu2⟩
              have hu2H := Lib.hid (show Step [] id id wr u2 from Step.tail hu1H.out hu2)
              obtain rfl := hb0.out r2 hr2
              have ha2 := Step.at hu2H.out hVaH.out (by simp)
              have hb2 := Step.at hu2H.out hVbH.out (by simp)
              have hc2 := Step.at hu2H.out hVcH.out (by simp)
              have hq2 := s18 ha2 hb2 hc2
              clear ha2 hb2 hc2
              clear hr2 hu2
              go_wp2_with fail
              refine hK.out _ _ ?_ (fun hHeld => ?_)
              · exact hq2
              clear hK K
              refine wpAnyH_take (i := 6) (v := ?_) rfl (by kernel_rfl) (by kernel_rfl) (by kernel_rfl) (fun _ _ _ h => h) (Or.inl ⟨by kernel_rfl, ?_⟩) hHeld ?_
              rotate_left
              · intro w' hSw; (try dsimp only at hSw); go_simp
                all_goals (with_reducible rfl)
              simp only [Act.put, List.getElem_toArray, List.getElem_cons_zero, List.getElem_cons_succ, List.setIfInBounds_toArray, List.set_cons_zero, List.set_cons_succ]
              refine wpAnyH_take (i := 7) (v := ?_) rfl (by kernel_rfl) (by kernel_rfl) (by kernel_rfl) (fun _ _ _ h => h) (Or.inl ⟨by kernel_rfl, ?_⟩) hHeld ?_
              rotate_left
              · intro w' hSw; (try dsimp only at hSw); go_simp
                all_goals (with_reducible rfl)
              simp only [Act.put, List.getElem_toArray, List.getElem_cons_zero, List.getElem_cons_succ, List.setIfInBounds_toArray, List.set_cons_zero, List.set_cons_succ]
              refine wpAnyH_take (i := 8) (v := ?_) rfl (by kernel_rfl) (by kernel_rfl) (by kernel_rfl) (fun _ _ _ h => h) (Or.inl ⟨by kernel_rfl, ?_⟩) hHeld ?_
              rotate_left
              · intro w' hSw; (try dsimp only at hSw); go_simp
                all_goals (with_reducible rfl)
              simp only [Act.put, List.getElem_toArray, List.getElem_cons_zero, List.getElem_cons_succ, List.setIfInBounds_toArray, List.set_cons_zero, List.set_cons_succ]
              refine wpAnyH_take (i := 9) (v := ?_) rfl (by kernel_rfl) (by kernel_rfl) (by kernel_rfl) (fun _ _ _ h => h) (Or.inl ⟨by kernel_rfl, ?_⟩) hHeld ?_
              rotate_left
              · intro w' hSw; (try dsimp only at hSw); go_simp
                all_goals (with_reducible rfl)
              simp only [Act.put, List.getElem_toArray, List.getElem_cons_zero, List.getElem_cons_succ, List.setIfInBounds_toArray, List.set_cons_zero, List.set_cons_succ]
              refine wpAnyH_ready (rs := [10]) (by kernel_rfl) (by simp) ?_
              refine AllReadyH.cons (o := _) rfl (fun K hK => ?_) AllReadyH.nil
              go_simp
              refine (cAA.out _ hu2H.out).mono ?_
              rintro e u3 ⟨r3, rfl, hr3, hu3⟩
              have hu3H := Lib.hid (show Step [] id id wr u3 from Step.tail hu2H.out hu3)
              obtain rfl : r3 = true := hr3.2 rfl
              have ha3 := Step.at hu3H.out hVaH.out (by simp)
              have hb3 := Step.at hu3H.out hVbH.out (by simp)
              have hc3 := Step.at hu3H.out hVcH.out (by simp)
              have hq3 := s18 ha3 hb3 hc3
              clear ha3 hb3 hc3
              clear hr3 hu3
              go_wp2_with fail
              refine hK.out _ _ ?_ (fun hHeld => ?_)
              · exact hq3
              clear hK K
              refine wpAnyH_take (i := 11) (v := ?_) rfl (by kernel_rfl) (by kernel_rfl) (by kernel_rfl) (fun _ _ _ h => h) (Or.inl ⟨by kernel_rfl, ?_⟩) hHeld ?_
              rotate_left
              · intro w' hSw; (try dsimp only at hSw); go_simp
                all_goals (with_reducible rfl)
              simp only [Act.put, List.getElem_toArray, List.getElem_cons_zero, List.getElem_cons_succ, List.setIfInBounds_toArray, List.set_cons_zero, List.set_cons_succ]
              refine wpAnyH_take (i := 12) (v := ?_) rfl (by kernel_rfl) (by kernel_rfl) (by kernel_rfl) (fun _ _ _ h => h) (Or.inl ⟨by kernel_rfl, ?_⟩) hHeld ?_
              rotate_left
              · intro w' hSw; (try dsimp only at hSw); go_simp
                all_goals (with_reducible rfl)
              simp only [Act.put, List.getElem_toArray, List.getElem_cons_zero, List.getElem_cons_succ, List.setIfInBounds_toArray, List.set_cons_zero, List.set_cons_succ]
              refine wpAnyH_take (i := 13) (v := ?_) rfl (by kernel_rfl) (by kernel_rfl) (by kernel_rfl) (fun _ _ _ h => h) (Or.inl ⟨by kernel_rfl, ?_⟩) hHeld ?_
              rotate_left
              · intro w' hSw; (try dsimp only at hSw); go_simp
                all_goals (with_reducible rfl)
              simp only [Act.put, List.getElem_toArray, List.getElem_cons_zero, List.getElem_cons_succ, List.setIfInBounds_toArray, List.set_cons_zero, List.set_cons_succ]
              refine wpAnyH_take (i := 14) (v := ?_) rfl (by kernel_rfl) (by kernel_rfl) (by kernel_rfl) (fun _ _ _ h => h) (Or.inl ⟨by kernel_rfl, ?_⟩) hHeld ?_
              rotate_left
              · intro w' hSw; (try dsimp only at hSw); go_simp
                all_goals (with_reducible rfl)
              simp only [Act.put, List.getElem_toArray, List.getElem_cons_zero, List.getElem_cons_succ, List.setIfInBounds_toArray, List.set_cons_zero, List.set_cons_succ]
              refine wpAnyH_take (i := 16) (v := ?_) rfl (by kernel_rfl) (by kernel_rfl) (by kernel_rfl) (fun _ _ _ h => h) (Or.inl ⟨by kernel_rfl, ?_⟩) hHeld ?_
              rotate_left
              · intro w' hSw; (try dsimp only at hSw); go_simp
                all_goals (with_reducible rfl)
              simp only [Act.put, List.getElem_toArray, List.getElem_cons_zero, List.getElem_cons_succ, List.setIfInBounds_toArray, List.set_cons_zero, List.set_cons_succ]
              refine wpAnyH_take (i := 17) (v := ?_) rfl (by kernel_rfl) (by kernel_rfl) (by kernel_rfl) (fun _ _ _ h => h) (Or.inl ⟨by kernel_rfl, ?_⟩) hHeld ?_
              rotate_left
              · intro w' hSw; (try dsimp only at hSw); go_simp
                all_goals (with_reducible rfl)
              simp only [Act.put, List.getElem_toArray, List.getElem_cons_zero, List.getElem_cons_succ, List.setIfInBounds_toArray, List.set_cons_zero, List.set_cons_succ]
              refine wpAnyH_ready (rs := [15]) (by kernel_rfl) (by simp) ?_
              refine AllReadyH.cons (o := _) rfl (fun K hK => ?_) AllReadyH.nil
              go_simp
              refine (cAC.out _ hu3H.out).mono ?_
              rintro e u4 ⟨r4, rfl, hr4, hu4⟩
              have hu4H := Lib.hid (show Step [] id id wr u4 from Step.tail hu3H.out hu4)
              obtain rfl := hc0.out r4 hr4
              have ha4 := Step.at hu4H.out hVaH.out (by simp)
              have hb4 := Step.at hu4H.out hVbH.out (by simp)
              have hc4 := Step.at hu4H.out hVcH.out (by simp)
              have hq4 := s18 ha4 hb4 hc4
              clear ha4 hb4 hc4
              clear hr4 hu4
              go_wp2_with fail
              refine hK.out _ _ ?_ (fun hHeld => ?_)
              · exact hq4
              clear hK K
              refine wpAnyH_take (i := 18) (v := ?_) rfl (by kernel_rfl) (by kernel_rfl) (by kernel_rfl) (fun _ _ _ h => h) (Or.inl ⟨by kernel_rfl, ?_⟩) hHeld ?_
              rotate_left
              · intro w' hSw; (try dsimp only at hSw); go_simp
                all_goals (with_reducible rfl)
              simp only [Act.put, List.getElem_toArray, List.getElem_cons_zero, List.getElem_cons_succ, List.setIfInBounds_toArray, List.set_cons_zero, List.set_cons_succ]
              refine wpAnyH_take (i := 19) (v := ?_) rfl (by kernel_rfl) (by kernel_rfl) (by kernel_rfl) (fun _ _ _ h => h) (Or.inl ⟨by kernel_rfl, ?_⟩) hHeld ?_
              rotate_left
              · intro w' hSw; (try dsimp only at hSw); go_simp
                all_goals (with_reducible rfl)
              simp only [Act.put, List.getElem_toArray, List.getElem_cons_zero, List.getElem_cons_succ, List.setIfInBounds_toArray, List.set_cons_zero, List.set_cons_succ]
              refine wpAnyH_take (i := 20) (v := ?_) rfl (by kernel_rfl) (by kernel_rfl) (by kernel_rfl) (fun _ _ _ h => h) (Or.inl ⟨by kernel_rfl, ?_⟩) hHeld ?_
              rotate_left
              · intro w' hSw; (try dsimp only at hSw); go_simp
                all_goals (with_reducible rfl)
              simp only [Act.put, List.getElem_toArray, List.getElem_cons_zero, List.getElem_cons_succ, List.setIfInBounds_toArray, List.set_cons_zero, List.set_cons_succ]
              refine wpAnyH_done (by kernel_rfl) ?_ _
              clear hq1 hq2 hq3 hq4 hHeld
              go_wp2_with fail
              go_ret
              exact ⟨rfl, hswrH.out.tail hu4H.out⟩
            · have hb0 := Lib.hid (fun (r : Bool) (h : r = true ↔ x = y) => bool_is (b := false) h (by simp [hxy]))
              go_wp2_with fail
              refine wp_region_held_drew (S := fun w' => w'.cell? ⟨w.heap.size, 0, none⟩ = some (.int .i64 k1) ∧ w'.cell? ⟨w.heap.size, 1, none⟩ = some (.int .i64 n1) ∧ w'.cell? ⟨w.heap.size, 2, none⟩ = some (.string S1) ∧ w'.cell? ⟨w.heap.size, 3, none⟩ = some (.slice ba1 bn1 bc1) ∧ w'.cell? ⟨w.heap.size, 4, none⟩ = some (.slice fa1 fn1 fc1) ∧ w'.cell? ⟨w.heap.size, 5, none⟩ = some (.slice la1 ln1 lc1) ∧ w'.cell? ⟨w.heap.size + 1, 0, none⟩ = some (.int .i64 k2) ∧ w'.cell? ⟨w.heap.size + 1, 1, none⟩ = some (.int .i64 n2) ∧ w'.cell? ⟨w.heap.size + 1, 2, none⟩ = some (.string S2) ∧ w'.cell? ⟨w.heap.size + 1, 3, none⟩ = some (.slice ba2 bn2 bc2) ∧ w'.cell? ⟨w.heap.size + 1, 4, none⟩ = some (.slice fa2 fn2 fc2) ∧ w'.cell? ⟨w.heap.size + 1, 5, none⟩ = some (.slice la2 ln2 lc2) ∧ w'.cell? ⟨C, 0, none⟩ = some (.int .i64 k9) ∧ w'.cell? ⟨C, 1, none⟩ = some (.int .i64 n9) ∧ w'.cell? ⟨C, 2, none⟩ = some (.string s9) ∧ w'.cell? ⟨C, 3, none⟩ = some (.slice ba q bc) ∧ w'.cell? ⟨C, 4, none⟩ = some (.slice fa j fc) ∧ w'.cell? ⟨C, 5, none⟩ = some (.slice la ln lc)) (by kernel_rfl) (s18 hVaH.out hVbH.out hVcH.out) (fun hHeld => ?_)
              refine wpAnyH_take (i := 0) (v := ?_) rfl (by kernel_rfl) (by kernel_rfl) (by kernel_rfl) (fun _ _ _ h => h) (Or.inl ⟨by kernel_rfl, ?_⟩) hHeld ?_
              rotate_left
              · intro w' hSw; (try dsimp only at hSw); go_simp
                all_goals (with_reducible rfl)
              simp only [Act.put, List.getElem_toArray, List.getElem_cons_zero, List.getElem_cons_succ, List.setIfInBounds_toArray, List.set_cons_zero, List.set_cons_succ]
              refine wpAnyH_take (i := 1) (v := ?_) rfl (by kernel_rfl) (by kernel_rfl) (by kernel_rfl) (fun _ _ _ h => h) (Or.inl ⟨by kernel_rfl, ?_⟩) hHeld ?_
              rotate_left
              · intro w' hSw; (try dsimp only at hSw); go_simp
                all_goals (with_reducible rfl)
              simp only [Act.put, List.getElem_toArray, List.getElem_cons_zero, List.getElem_cons_succ, List.setIfInBounds_toArray, List.set_cons_zero, List.set_cons_succ]
              refine wpAnyH_take (i := 3) (v := ?_) rfl (by kernel_rfl) (by kernel_rfl) (by kernel_rfl) (fun _ _ _ h => h) (Or.inl ⟨by kernel_rfl, ?_⟩) hHeld ?_
              rotate_left
              · intro w' hSw; (try dsimp only at hSw); go_simp
                all_goals (with_reducible rfl)
              simp only [Act.put, List.getElem_toArray, List.getElem_cons_zero, List.getElem_cons_succ, List.setIfInBounds_toArray, List.set_cons_zero, List.set_cons_succ]
              refine wpAnyH_take (i := 4) (v := ?_) rfl (by kernel_rfl) (by kernel_rfl) (by kernel_rfl) (fun _ _ _ h => h) (Or.inl ⟨by kernel_rfl, ?_⟩) hHeld ?_
              rotate_left
              · intro w' hSw; (try dsimp only at hSw); go_simp
                all_goals (with_reducible rfl)
              simp only [Act.put, List.getElem_toArray, List.getElem_cons_zero, List.getElem_cons_succ, List.setIfInBounds_toArray, List.set_cons_zero, List.set_cons_succ]
              refine wpAnyH_ready (rs := [2]) (by kernel_rfl) (by simp) ?_
              refine AllReadyH.cons (o := _) rfl (fun K hK => ?_) AllReadyH.nil
              go_simp
              refine (cSame.out wr.drew Step.drew).mono ?_
              rintro e u1 ⟨r1, rfl, hr1, hu1⟩
              have hu1H := Lib.hid (show Step [] id id wr u1 from Step.tail Step.drew hu1)
              obtain rfl := hb0.out r1 hr1
              have ha1 := Step.at hu1H.out hVaH.out (by simp)
              have hb1 := Step.at hu1H.out hVbH.out (by simp)
              have hc1 := Step.at hu1H.out hVcH.out (by simp)
              have hq1 := s18 ha1 hb1 hc1
              clear ha1 hb1 hc1
              clear hr1 hu1
              go_wp2_with fail
              refine hK.out _ _ ?_ (fun hHeld => ?_)
              · exact hq1
              clear hK K
              refine wpAnyH_ready (rs := [5]) (by kernel_rfl) (by simp) ?_
              refine AllReadyH.cons (o := _) rfl (fun K hK => ?_) AllReadyH.nil
              go_simp
              refine (cRef.out _ hu1H.out).mono ?_
              rintro e u2 ⟨r2, rfl, hr2, hu2⟩
              have hu2H := Lib.hid (show Step [] id id wr u2 from Step.tail hu1H.out hu2)
              obtain rfl := hb0.out r2 hr2
              have ha2 := Step.at hu2H.out hVaH.out (by simp)
              have hb2 := Step.at hu2H.out hVbH.out (by simp)
              have hc2 := Step.at hu2H.out hVcH.out (by simp)
              have hq2 := s18 ha2 hb2 hc2
              clear ha2 hb2 hc2
              clear hr2 hu2
              go_wp2_with fail
              refine hK.out _ _ ?_ (fun hHeld => ?_)
              · exact hq2
              clear hK K
              refine wpAnyH_take (i := 6) (v := ?_) rfl (by kernel_rfl) (by kernel_rfl) (by kernel_rfl) (fun _ _ _ h => h) (Or.inl ⟨by kernel_rfl, ?_⟩) hHeld ?_
              rotate_left
              · intro w' hSw; (try dsimp only at hSw); go_simp
                all_goals (with_reducible rfl)
              simp only [Act.put, List.getElem_toArray, List.getElem_cons_zero, List.getElem_cons_succ, List.setIfInBounds_toArray, List.set_cons_zero, List.set_cons_succ]
              refine wpAnyH_take (i := 7) (v := ?_) rfl (by kernel_rfl) (by kernel_rfl) (by kernel_rfl) (fun _ _ _ h => h) (Or.inl ⟨by kernel_rfl, ?_⟩) hHeld ?_
              rotate_left
              · intro w' hSw; (try dsimp only at hSw); go_simp
                all_goals (with_reducible rfl)
              simp only [Act.put, List.getElem_toArray, List.getElem_cons_zero, List.getElem_cons_succ, List.setIfInBounds_toArray, List.set_cons_zero, List.set_cons_succ]
              refine wpAnyH_take (i := 8) (v := ?_) rfl (by kernel_rfl) (by kernel_rfl) (by kernel_rfl) (fun _ _ _ h => h) (Or.inl ⟨by kernel_rfl, ?_⟩) hHeld ?_
              rotate_left
              · intro w' hSw; (try dsimp only at hSw); go_simp
                all_goals (with_reducible rfl)
              simp only [Act.put, List.getElem_toArray, List.getElem_cons_zero, List.getElem_cons_succ, List.setIfInBounds_toArray, List.set_cons_zero, List.set_cons_succ]
              refine wpAnyH_take (i := 9) (v := ?_) rfl (by kernel_rfl) (by kernel_rfl) (by kernel_rfl) (fun _ _ _ h => h) (Or.inl ⟨by kernel_rfl, ?_⟩) hHeld ?_
              rotate_left
              · intro w' hSw; (try dsimp only at hSw); go_simp
                all_goals (with_reducible rfl)
              simp only [Act.put, List.getElem_toArray, List.getElem_cons_zero, List.getElem_cons_succ, List.setIfInBounds_toArray, List.set_cons_zero, List.set_cons_succ]
              refine wpAnyH_ready (rs := [10]) (by kernel_rfl) (by simp) ?_
              refine AllReadyH.cons (o := _) rfl (fun K hK => ?_) AllReadyH.nil
              go_simp
              refine (cAA.out _ hu2H.out).mono ?_
              rintro e u3 ⟨r3, rfl, hr3, hu3⟩
              have hu3H := Lib.hid (show Step [] id id wr u3 from Step.tail hu2H.out hu3)
              obtain rfl : r3 = true := hr3.2 rfl
              have ha3 := Step.at hu3H.out hVaH.out (by simp)
              have hb3 := Step.at hu3H.out hVbH.out (by simp)
              have hc3 := Step.at hu3H.out hVcH.out (by simp)
              have hq3 := s18 ha3 hb3 hc3
              clear ha3 hb3 hc3
              clear hr3 hu3
              go_wp2_with fail
              refine hK.out _ _ ?_ (fun hHeld => ?_)
              · exact hq3
              clear hK K
              refine wpAnyH_take (i := 11) (v := ?_) rfl (by kernel_rfl) (by kernel_rfl) (by kernel_rfl) (fun _ _ _ h => h) (Or.inl ⟨by kernel_rfl, ?_⟩) hHeld ?_
              rotate_left
              · intro w' hSw; (try dsimp only at hSw); go_simp
                all_goals (with_reducible rfl)
              simp only [Act.put, List.getElem_toArray, List.getElem_cons_zero, List.getElem_cons_succ, List.setIfInBounds_toArray, List.set_cons_zero, List.set_cons_succ]
              refine wpAnyH_take (i := 12) (v := ?_) rfl (by kernel_rfl) (by kernel_rfl) (by kernel_rfl) (fun _ _ _ h => h) (Or.inl ⟨by kernel_rfl, ?_⟩) hHeld ?_
              rotate_left
              · intro w' hSw; (try dsimp only at hSw); go_simp
                all_goals (with_reducible rfl)
              simp only [Act.put, List.getElem_toArray, List.getElem_cons_zero, List.getElem_cons_succ, List.setIfInBounds_toArray, List.set_cons_zero, List.set_cons_succ]
              refine wpAnyH_take (i := 13) (v := ?_) rfl (by kernel_rfl) (by kernel_rfl) (by kernel_rfl) (fun _ _ _ h => h) (Or.inl ⟨by kernel_rfl, ?_⟩) hHeld ?_
              rotate_left
              · intro w' hSw; (try dsimp only at hSw); go_simp
                all_goals (with_reducible rfl)
              simp only [Act.put, List.getElem_toArray, List.getElem_cons_zero, List.getElem_cons_succ, List.setIfInBounds_toArray, List.set_cons_zero, List.set_cons_succ]
              refine wpAnyH_take (i := 14) (v := ?_) rfl (by kernel_rfl) (by kernel_rfl) (by kernel_rfl) (fun _ _ _ h => h) (Or.inl ⟨by kernel_rfl, ?_⟩) hHeld ?_
              rotate_left
              · intro w' hSw; (try dsimp only at hSw); go_simp
                all_goals (with_reducible rfl)
              simp only [Act.put, List.getElem_toArray, List.getElem_cons_zero, List.getElem_cons_succ, List.setIfInBounds_toArray, List.set_cons_zero, List.set_cons_succ]
              refine wpAnyH_take (i := 16) (v := ?_) rfl (by kernel_rfl) (by kernel_rfl) (by kernel_rfl) (fun _ _ _ h => h) (Or.inl ⟨by kernel_rfl, ?_⟩) hHeld ?_
              rotate_left
              · intro w' hSw; (try dsimp only at hSw); go_simp
                all_goals (with_reducible rfl)
              simp only [Act.put, List.getElem_toArray, List.getElem_cons_zero, List.getElem_cons_succ, List.setIfInBounds_toArray, List.set_cons_zero, List.set_cons_succ]
              refine wpAnyH_take (i := 17) (v := ?_) rfl (by kernel_rfl) (by kernel_rfl) (by kernel_rfl) (fun _ _ _ h => h) (Or.inl ⟨by kernel_rfl, ?_⟩) hHeld ?_
              rotate_left
              · intro w' hSw; (try dsimp only at hSw); go_simp
                all_goals (with_reducible rfl)
              simp only [Act.put, List.getElem_toArray, List.getElem_cons_zero, List.getElem_cons_succ, List.setIfInBounds_toArray, List.set_cons_zero, List.set_cons_succ]
              refine wpAnyH_ready (rs := [15]) (by kernel_rfl) (by simp) ?_
              refine AllReadyH.cons (o := _) rfl (fun K hK => ?_) AllReadyH.nil
              go_simp
              refine (cAC.out _ hu3H.out).mono ?_
              rintro e u4 ⟨r4, rfl, hr4, hu4⟩
              have hu4H := Lib.hid (show Step [] id id wr u4 from Step.tail hu3H.out hu4)
              obtain rfl := hc0.out r4 hr4
              have ha4 := Step.at hu4H.out hVaH.out (by simp)
              have hb4 := Step.at hu4H.out hVbH.out (by simp)
              have hc4 := Step.at hu4H.out hVcH.out (by simp)
              have hq4 := s18 ha4 hb4 hc4
              clear ha4 hb4 hc4
              clear hr4 hu4
              go_wp2_with fail
              refine hK.out _ _ ?_ (fun hHeld => ?_)
              · exact hq4
              clear hK K
              refine wpAnyH_take (i := 18) (v := ?_) rfl (by kernel_rfl) (by kernel_rfl) (by kernel_rfl) (fun _ _ _ h => h) (Or.inl ⟨by kernel_rfl, ?_⟩) hHeld ?_
              rotate_left
              · intro w' hSw; (try dsimp only at hSw); go_simp
                all_goals (with_reducible rfl)
              simp only [Act.put, List.getElem_toArray, List.getElem_cons_zero, List.getElem_cons_succ, List.setIfInBounds_toArray, List.set_cons_zero, List.set_cons_succ]
              refine wpAnyH_take (i := 19) (v := ?_) rfl (by kernel_rfl) (by kernel_rfl) (by kernel_rfl) (fun _ _ _ h => h) (Or.inl ⟨by kernel_rfl, ?_⟩) hHeld ?_
              rotate_left
              · intro w' hSw; (try dsimp only at hSw); go_simp
                all_goals (with_reducible rfl)
              simp only [Act.put, List.getElem_toArray, List.getElem_cons_zero, List.getElem_cons_succ, List.setIfInBounds_toArray, List.set_cons_zero, List.set_cons_succ]
              refine wpAnyH_take (i := 20) (v := ?_) rfl (by kernel_rfl) (by kernel_rfl) (by kernel_rfl) (fun _ _ _ h => h) (Or.inl ⟨by kernel_rfl, ?_⟩) hHeld ?_
              rotate_left
              · intro w' hSw; (try dsimp only at hSw); go_simp
                all_goals (with_reducible rfl)
              simp only [Act.put, List.getElem_toArray, List.getElem_cons_zero, List.getElem_cons_succ, List.setIfInBounds_toArray, List.set_cons_zero, List.set_cons_succ]
              refine wpAnyH_done (by kernel_rfl) ?_ _
              clear hq1 hq2 hq3 hq4 hHeld
              go_wp2_with fail
              go_ret
              exact ⟨rfl, hswrH.out.tail hu4H.out⟩
          · have hch1 : (0 : Int) < (j : Int) + (q : Int) := by omega
            have hc0 := Lib.hid (fun (r : Bool) (h : r = true ↔ x = z) => bool_is (b := false) h (by rw [hxzH.out]; simpa using hch))
            clear hch
            by_cases hxy : x = y
            · have hb0 := Lib.hid (fun (r : Bool) (h : r = true ↔ x = y) => bool_is (b := true) h (by simp [hxy]))
              go_wp2_with fail
              refine wp_region_held_drew (S := fun w' => w'.cell? ⟨w.heap.size, 0, none⟩ = some (.int .i64 k1) ∧ w'.cell? ⟨w.heap.size, 1, none⟩ = some (.int .i64 n1) ∧ w'.cell? ⟨w.heap.size, 2, none⟩ = some (.string S1) ∧ w'.cell? ⟨w.heap.size, 3, none⟩ = some (.slice ba1 bn1 bc1) ∧ w'.cell? ⟨w.heap.size, 4, none⟩ = some (.slice fa1 fn1 fc1) ∧ w'.cell? ⟨w.heap.size, 5, none⟩ = some (.slice la1 ln1 lc1) ∧ w'.cell? ⟨w.heap.size + 1, 0, none⟩ = some (.int .i64 k2) ∧ w'.cell? ⟨w.heap.size + 1, 1, none⟩ = some (.int .i64 n2) ∧ w'.cell? ⟨w.heap.size + 1, 2, none⟩ = some (.string S2) ∧ w'.cell? ⟨w.heap.size + 1, 3, none⟩ = some (.slice ba2 bn2 bc2) ∧ w'.cell? ⟨w.heap.size + 1, 4, none⟩ = some (.slice fa2 fn2 fc2) ∧ w'.cell? ⟨w.heap.size + 1, 5, none⟩ = some (.slice la2 ln2 lc2) ∧ w'.cell? ⟨C, 0, none⟩ = some (.int .i64 k9) ∧ w'.cell? ⟨C, 1, none⟩ = some (.int .i64 n9) ∧ w'.cell? ⟨C, 2, none⟩ = some (.string s9) ∧ w'.cell? ⟨C, 3, none⟩ = some (.slice ba q bc) ∧ w'.cell? ⟨C, 4, none⟩ = some (.slice fa j fc) ∧ w'.cell? ⟨C, 5, none⟩ = some (.slice la ln lc)) (by kernel_rfl) (s18 hVaH.out hVbH.out hVcH.out) (fun hHeld => ?_)
              refine wpAnyH_take (i := 0) (v := ?_) rfl (by kernel_rfl) (by kernel_rfl) (by kernel_rfl) (fun _ _ _ h => h) (Or.inl ⟨by kernel_rfl, ?_⟩) hHeld ?_
              rotate_left
              · intro w' hSw; (try dsimp only at hSw); go_simp
                all_goals (with_reducible rfl)
              simp only [Act.put, List.getElem_toArray, List.getElem_cons_zero, List.getElem_cons_succ, List.setIfInBounds_toArray, List.set_cons_zero, List.set_cons_succ]
              refine wpAnyH_take (i := 1) (v := ?_) rfl (by kernel_rfl) (by kernel_rfl) (by kernel_rfl) (fun _ _ _ h => h) (Or.inl ⟨by kernel_rfl, ?_⟩) hHeld ?_
              rotate_left
              · intro w' hSw; (try dsimp only at hSw); go_simp
                all_goals (with_reducible rfl)
              simp only [Act.put, List.getElem_toArray, List.getElem_cons_zero, List.getElem_cons_succ, List.setIfInBounds_toArray, List.set_cons_zero, List.set_cons_succ]
              refine wpAnyH_take (i := 3) (v := ?_) rfl (by kernel_rfl) (by kernel_rfl) (by kernel_rfl) (fun _ _ _ h => h) (Or.inl ⟨by kernel_rfl, ?_⟩) hHeld ?_
              rotate_left
              · intro w' hSw; (try dsimp only at hSw); go_simp
                all_goals (with_reducible rfl)
              simp only [Act.put, List.getElem_toArray, List.getElem_cons_zero, List.getElem_cons_succ, List.setIfInBounds_toArray, List.set_cons_zero, List.set_cons_succ]
              refine wpAnyH_take (i := 4) (v := ?_) rfl (by kernel_rfl) (by kernel_rfl) (by kernel_rfl) (fun _ _ _ h => h) (Or.inl ⟨by kernel_rfl, ?_⟩) hHeld ?_
              rotate_left
              · intro w' hSw; (try dsimp only at hSw); go_simp
                all_goals (with_reducible rfl)
              simp only [Act.put, List.getElem_toArray, List.getElem_cons_zero, List.getElem_cons_succ, List.setIfInBounds_toArray, List.set_cons_zero, List.set_cons_succ]
              refine wpAnyH_ready (rs := [2]) (by kernel_rfl) (by simp) ?_
              refine AllReadyH.cons (o := _) rfl (fun K hK => ?_) AllReadyH.nil
              go_simp
              refine (cSame.out wr.drew Step.drew).mono ?_
              rintro e u1 ⟨r1, rfl, hr1, hu1⟩
              have hu1H := Lib.hid (show Step [] id id wr u1 from Step.tail Step.drew hu1)
              obtain rfl := hb0.out r1 hr1
              have ha1 := Step.at hu1H.out hVaH.out (by simp)
              have hb1 := Step.at hu1H.out hVbH.out (by simp)
              have hc1 := Step.at hu1H.out hVcH.out (by simp)
              have hq1 := s18 ha1 hb1 hc1
              clear ha1 hb1 hc1
              clear hr1 hu1
              go_wp2_with fail
              refine hK.out _ _ ?_ (fun hHeld => ?_)
              · exact hq1
              clear hK K
              refine wpAnyH_ready (rs := [5]) (by kernel_rfl) (by simp) ?_
              refine AllReadyH.cons (o := _) rfl (fun K hK => ?_) AllReadyH.nil
              go_simp
              refine (cRef.out _ hu1H.out).mono ?_
              rintro e u2 ⟨r2, rfl, hr2, hu2⟩
              have hu2H := Lib.hid (show Step [] id id wr u2 from Step.tail hu1H.out hu2)
              obtain rfl := hb0.out r2 hr2
              have ha2 := Step.at hu2H.out hVaH.out (by simp)
              have hb2 := Step.at hu2H.out hVbH.out (by simp)
              have hc2 := Step.at hu2H.out hVcH.out (by simp)
              have hq2 := s18 ha2 hb2 hc2
              clear ha2 hb2 hc2
              clear hr2 hu2
              go_wp2_with fail
              refine hK.out _ _ ?_ (fun hHeld => ?_)
              · exact hq2
              clear hK K
              refine wpAnyH_take (i := 6) (v := ?_) rfl (by kernel_rfl) (by kernel_rfl) (by kernel_rfl) (fun _ _ _ h => h) (Or.inl ⟨by kernel_rfl, ?_⟩) hHeld ?_
              rotate_left
              · intro w' hSw; (try dsimp only at hSw); go_simp
                all_goals (with_reducible rfl)
              simp only [Act.put, List.getElem_toArray, List.getElem_cons_zero, List.getElem_cons_succ, List.setIfInBounds_toArray, List.set_cons_zero, List.set_cons_succ]
              refine wpAnyH_take (i := 7) (v := ?_) rfl (by kernel_rfl) (by kernel_rfl) (by kernel_rfl) (fun _ _ _ h => h) (Or.inl ⟨by kernel_rfl, ?_⟩) hHeld ?_
              rotate_left
              · intro w' hSw; (try dsimp only at hSw); go_simp
                all_goals (with_reducible rfl)
              simp only [Act.put, List.getElem_toArray, List.getElem_cons_zero, List.getElem_cons_succ, List.setIfInBounds_toArray, List.set_cons_zero, List.set_cons_succ]
              refine wpAnyH_take (i := 8) (v := ?_) rfl (by kernel_rfl) (by kernel_rfl) (by kernel_rfl) (fun _ _ _ h => h) (Or.inl ⟨by kernel_rfl, ?_⟩) hHeld ?_
              rotate_left
              · intro w' hSw; (try dsimp only at hSw); go_simp
                all_goals (with_reducible rfl)
              simp only [Act.put, List.getElem_toArray, List.getElem_cons_zero, List.getElem_cons_succ, List.setIfInBounds_toArray, List.set_cons_zero, List.set_cons_succ]
              refine wpAnyH_take (i := 9) (v := ?_) rfl (by kernel_rfl) (by kernel_rfl) (by kernel_rfl) (fun _ _ _ h => h) (Or.inl ⟨by kernel_rfl, ?_⟩) hHeld ?_
              rotate_left
              · intro w' hSw; (try dsimp only at hSw); go_simp
                all_goals (with_reducible rfl)
              simp only [Act.put, List.getElem_toArray, List.getElem_cons_zero, List.getElem_cons_succ, List.setIfInBounds_toArray, List.set_cons_zero, List.set_cons_succ]
              refine wpAnyH_ready (rs := [10]) (by kernel_rfl) (by simp) ?_
              refine AllReadyH.cons (o := _) rfl (fun K hK => ?_) AllReadyH.nil
              go_simp
              refine (cAA.out _ hu2H.out).mono ?_
              rintro e u3 ⟨r3, rfl, hr3, hu3⟩
              have hu3H := Lib.hid (show Step [] id id wr u3 from Step.tail hu2H.out hu3)
              obtain rfl : r3 = true := hr3.2 rfl
              have ha3 := Step.at hu3H.out hVaH.out (by simp)
              have hb3 := Step.at hu3H.out hVbH.out (by simp)
              have hc3 := Step.at hu3H.out hVcH.out (by simp)
              have hq3 := s18 ha3 hb3 hc3
              clear ha3 hb3 hc3
              clear hr3 hu3
              go_wp2_with fail
              refine hK.out _ _ ?_ (fun hHeld => ?_)
              · exact hq3
              clear hK K
              refine wpAnyH_take (i := 11) (v := ?_) rfl (by kernel_rfl) (by kernel_rfl) (by kernel_rfl) (fun _ _ _ h => h) (Or.inl ⟨by kernel_rfl, ?_⟩) hHeld ?_
              rotate_left
              · intro w' hSw; (try dsimp only at hSw); go_simp
                all_goals (with_reducible rfl)
              simp only [Act.put, List.getElem_toArray, List.getElem_cons_zero, List.getElem_cons_succ, List.setIfInBounds_toArray, List.set_cons_zero, List.set_cons_succ]
              refine wpAnyH_take (i := 12) (v := ?_) rfl (by kernel_rfl) (by kernel_rfl) (by kernel_rfl) (fun _ _ _ h => h) (Or.inl ⟨by kernel_rfl, ?_⟩) hHeld ?_
              rotate_left
              · intro w' hSw; (try dsimp only at hSw); go_simp
                all_goals (with_reducible rfl)
              simp only [Act.put, List.getElem_toArray, List.getElem_cons_zero, List.getElem_cons_succ, List.setIfInBounds_toArray, List.set_cons_zero, List.set_cons_succ]
              refine wpAnyH_take (i := 13) (v := ?_) rfl (by kernel_rfl) (by kernel_rfl) (by kernel_rfl) (fun _ _ _ h => h) (Or.inl ⟨by kernel_rfl, ?_⟩) hHeld ?_
              rotate_left
              · intro w' hSw; (try dsimp only at hSw); go_simp
                all_goals (with_reducible rfl)
              simp only [Act.put, List.getElem_toArray, List.getElem_cons_zero, List.getElem_cons_succ, List.setIfInBounds_toArray, List.set_cons_zero, List.set_cons_succ]
              refine wpAnyH_take (i := 14) (v := ?_) rfl (by kernel_rfl) (by kernel_rfl) (by kernel_rfl) (fun _ _ _ h => h) (Or.inl ⟨by kernel_rfl, ?_⟩) hHeld ?_
              rotate_left
              · intro w' hSw; (try dsimp only at hSw); go_simp
                all_goals (with_reducible rfl)
              simp only [Act.put, List.getElem_toArray, List.getElem_cons_zero, List.getElem_cons_succ, List.setIfInBounds_toArray, List.set_cons_zero, List.set_cons_succ]
              refine wpAnyH_take (i := 16) (v := ?_) rfl (by kernel_rfl) (by kernel_rfl) (by kernel_rfl) (fun _ _ _ h => h) (Or.inl ⟨by kernel_rfl, ?_⟩) hHeld ?_
              rotate_left
              · intro w' hSw; (try dsimp only at hSw); go_simp
                all_goals (with_reducible rfl)
              simp only [Act.put, List.getElem_toArray, List.getElem_cons_zero, List.getElem_cons_succ, List.setIfInBounds_toArray, List.set_cons_zero, List.set_cons_succ]
              refine wpAnyH_take (i := 17) (v := ?_) rfl (by kernel_rfl) (by kernel_rfl) (by kernel_rfl) (fun _ _ _ h => h) (Or.inl ⟨by kernel_rfl, ?_⟩) hHeld ?_
              rotate_left
              · intro w' hSw; (try dsimp only at hSw); go_simp
                all_goals (with_reducible rfl)
              simp only [Act.put, List.getElem_toArray, List.getElem_cons_zero, List.getElem_cons_succ, List.setIfInBounds_toArray, List.set_cons_zero, List.set_cons_succ]
              refine wpAnyH_ready (rs := [15]) (by kernel_rfl) (by simp) ?_
              refine AllReadyH.cons (o := _) rfl (fun K hK => ?_) AllReadyH.nil
              go_simp
              refine (cAC.out _ hu3H.out).mono ?_
              rintro e u4 ⟨r4, rfl, hr4, hu4⟩
              have hu4H := Lib.hid (show Step [] id id wr u4 from Step.tail hu3H.out hu4)
              obtain rfl := hc0.out r4 hr4
              have ha4 := Step.at hu4H.out hVaH.out (by simp)
              have hb4 := Step.at hu4H.out hVbH.out (by simp)
              have hc4 := Step.at hu4H.out hVcH.out (by simp)
              have hq4 := s18 ha4 hb4 hc4
              clear ha4 hb4 hc4
              clear hr4 hu4
              go_wp2_with fail
              refine hK.out _ _ ?_ (fun hHeld => ?_)
              · exact hq4
              clear hK K
              refine wpAnyH_take (i := 18) (v := ?_) rfl (by kernel_rfl) (by kernel_rfl) (by kernel_rfl) (fun _ _ _ h => h) (Or.inl ⟨by kernel_rfl, ?_⟩) hHeld ?_
              rotate_left
              · intro w' hSw; (try dsimp only at hSw); go_simp
                all_goals (with_reducible rfl)
              simp only [Act.put, List.getElem_toArray, List.getElem_cons_zero, List.getElem_cons_succ, List.setIfInBounds_toArray, List.set_cons_zero, List.set_cons_succ]
              refine wpAnyH_take (i := 19) (v := ?_) rfl (by kernel_rfl) (by kernel_rfl) (by kernel_rfl) (fun _ _ _ h => h) (Or.inl ⟨by kernel_rfl, ?_⟩) hHeld ?_
              rotate_left
              · intro w' hSw; (try dsimp only at hSw); go_simp
                all_goals (with_reducible rfl)
              simp only [Act.put, List.getElem_toArray, List.getElem_cons_zero, List.getElem_cons_succ, List.setIfInBounds_toArray, List.set_cons_zero, List.set_cons_succ]
              refine wpAnyH_take (i := 20) (v := ?_) rfl (by kernel_rfl) (by kernel_rfl) (by kernel_rfl) (fun _ _ _ h => h) (Or.inl ⟨by kernel_rfl, ?_⟩) hHeld ?_
              rotate_left
              · intro w' hSw; (try dsimp only at hSw); go_simp
                all_goals (with_reducible rfl)
              simp only [Act.put, List.getElem_toArray, List.getElem_cons_zero, List.getElem_cons_succ, List.setIfInBounds_toArray, List.set_cons_zero, List.set_cons_succ]
              refine wpAnyH_done (by kernel_rfl) ?_ _
              clear hq1 hq2 hq3 hq4 hHeld
              go_wp2_with fail
              go_ret
              exact ⟨rfl, hswrH.out.tail hu4H.out⟩
            · have hb0 := Lib.hid (fun (r : Bool) (h : r = true ↔ x = y) => bool_is (b := false) h (by simp [hxy]))
              go_wp2_with fail
              refine wp_region_held_drew (S := fun w' => w'.cell? ⟨w.heap.size, 0, none⟩ = some (.int .i64 k1) ∧ w'.cell? ⟨w.heap.size, 1, none⟩ = some (.int .i64 n1) ∧ w'.cell? ⟨w.heap.size, 2, none⟩ = some (.string S1) ∧ w'.cell? ⟨w.heap.size, 3, none⟩ = some (.slice ba1 bn1 bc1) ∧ w'.cell? ⟨w.heap.size, 4, none⟩ = some (.slice fa1 fn1 fc1) ∧ w'.cell? ⟨w.heap.size, 5, none⟩ = some (.slice la1 ln1 lc1) ∧ w'.cell? ⟨w.heap.size + 1, 0, none⟩ = some (.int .i64 k2) ∧ w'.cell? ⟨w.heap.size + 1, 1, none⟩ = some (.int .i64 n2) ∧ w'.cell? ⟨w.heap.size + 1, 2, none⟩ = some (.string S2) ∧ w'.cell? ⟨w.heap.size + 1, 3, none⟩ = some (.slice ba2 bn2 bc2) ∧ w'.cell? ⟨w.heap.size + 1, 4, none⟩ = some (.slice fa2 fn2 fc2) ∧ w'.cell? ⟨w.heap.size + 1, 5, none⟩ = some (.slice la2 ln2 lc2) ∧ w'.cell? ⟨C, 0, none⟩ = some (.int .i64 k9) ∧ w'.cell? ⟨C, 1, none⟩ = some (.int .i64 n9) ∧ w'.cell? ⟨C, 2, none⟩ = some (.string s9) ∧ w'.cell? ⟨C, 3, none⟩ = some (.slice ba q bc) ∧ w'.cell? ⟨C, 4, none⟩ = some (.slice fa j fc) ∧ w'.cell? ⟨C, 5, none⟩ = some (.slice la ln lc)) (by kernel_rfl) (s18 hVaH.out hVbH.out hVcH.out) (fun hHeld => ?_)
              refine wpAnyH_take (i := 0) (v := ?_) rfl (by kernel_rfl) (by kernel_rfl) (by kernel_rfl) (fun _ _ _ h => h) (Or.inl ⟨by kernel_rfl, ?_⟩) hHeld ?_
              rotate_left
              · intro w' hSw; (try dsimp only at hSw); go_simp
                all_goals (with_reducible rfl)
              simp only [Act.put, List.getElem_toArray, List.getElem_cons_zero, List.getElem_cons_succ, List.setIfInBounds_toArray, List.set_cons_zero, List.set_cons_succ]
              refine wpAnyH_take (i := 1) (v := ?_) rfl (by kernel_rfl) (by kernel_rfl) (by kernel_rfl) (fun _ _ _ h => h) (Or.inl ⟨by kernel_rfl, ?_⟩) hHeld ?_
              rotate_left
              · intro w' hSw; (try dsimp only at hSw); go_simp
                all_goals (with_reducible rfl)
              simp only [Act.put, List.getElem_toArray, List.getElem_cons_zero, List.getElem_cons_succ, List.setIfInBounds_toArray, List.set_cons_zero, List.set_cons_succ]
              refine wpAnyH_take (i := 3) (v := ?_) rfl (by kernel_rfl) (by kernel_rfl) (by kernel_rfl) (fun _ _ _ h => h) (Or.inl ⟨by kernel_rfl, ?_⟩) hHeld ?_
              rotate_left
              · intro w' hSw; (try dsimp only at hSw); go_simp
                all_goals (with_reducible rfl)
              simp only [Act.put, List.getElem_toArray, List.getElem_cons_zero, List.getElem_cons_succ, List.setIfInBounds_toArray, List.set_cons_zero, List.set_cons_succ]
              refine wpAnyH_take (i := 4) (v := ?_) rfl (by kernel_rfl) (by kernel_rfl) (by kernel_rfl) (fun _ _ _ h => h) (Or.inl ⟨by kernel_rfl, ?_⟩) hHeld ?_
              rotate_left
              · intro w' hSw; (try dsimp only at hSw); go_simp
                all_goals (with_reducible rfl)
              simp only [Act.put, List.getElem_toArray, List.getElem_cons_zero, List.getElem_cons_succ, List.setIfInBounds_toArray, List.set_cons_zero, List.set_cons_succ]
              refine wpAnyH_ready (rs := [2]) (by kernel_rfl) (by simp) ?_
              refine AllReadyH.cons (o := _) rfl (fun K hK => ?_) AllReadyH.nil
              go_simp
              refine (cSame.out wr.drew Step.drew).mono ?_
              rintro e u1 ⟨r1, rfl, hr1, hu1⟩
              have hu1H := Lib.hid (show Step [] id id wr u1 from Step.tail Step.drew hu1)
              obtain rfl := hb0.out r1 hr1
              have ha1 := Step.at hu1H.out hVaH.out (by simp)
              have hb1 := Step.at hu1H.out hVbH.out (by simp)
              have hc1 := Step.at hu1H.out hVcH.out (by simp)
              have hq1 := s18 ha1 hb1 hc1
              clear ha1 hb1 hc1
              clear hr1 hu1
              go_wp2_with fail
              refine hK.out _ _ ?_ (fun hHeld => ?_)
              · exact hq1
              clear hK K
              refine wpAnyH_ready (rs := [5]) (by kernel_rfl) (by simp) ?_
              refine AllReadyH.cons (o := _) rfl (fun K hK => ?_) AllReadyH.nil
              go_simp
              refine (cRef.out _ hu1H.out).mono ?_
              rintro e u2 ⟨r2, rfl, hr2, hu2⟩
              have hu2H := Lib.hid (show Step [] id id wr u2 from Step.tail hu1H.out hu2)
              obtain rfl := hb0.out r2 hr2
              have ha2 := Step.at hu2H.out hVaH.out (by simp)
              have hb2 := Step.at hu2H.out hVbH.out (by simp)
              have hc2 := Step.at hu2H.out hVcH.out (by simp)
              have hq2 := s18 ha2 hb2 hc2
              clear ha2 hb2 hc2
              clear hr2 hu2
              go_wp2_with fail
              refine hK.out _ _ ?_ (fun hHeld => ?_)
              · exact hq2
              clear hK K
              refine wpAnyH_take (i := 6) (v := ?_) rfl (by kernel_rfl) (by kernel_rfl) (by kernel_rfl) (fun _ _ _ h => h) (Or.inl ⟨by kernel_rfl, ?_⟩) hHeld ?_
              rotate_left
              · intro w' hSw; (try dsimp only at hSw); go_simp
                all_goals (with_reducible rfl)
              simp only [Act.put, List.getElem_toArray, List.getElem_cons_zero, List.getElem_cons_succ, List.setIfInBounds_toArray, List.set_cons_zero, List.set_cons_succ]
              refine wpAnyH_take (i := 7) (v := ?_) rfl (by kernel_rfl) (by kernel_rfl) (by kernel_rfl) (fun _ _ _ h => h) (Or.inl ⟨by kernel_rfl, ?_⟩) hHeld ?_
              rotate_left
              · intro w' hSw; (try dsimp only at hSw); go_simp
                all_goals (with_reducible rfl)
              simp only [Act.put, List.getElem_toArray, List.getElem_cons_zero, List.getElem_cons_succ, List.setIfInBounds_toArray, List.set_cons_zero, List.set_cons_succ]
              refine wpAnyH_take (i := 8) (v := ?_) rfl (by kernel_rfl) (by kernel_rfl) (by kernel_rfl) (fun _ _ _ h => h) (Or.inl ⟨by kernel_rfl, ?_⟩) hHeld ?_
              rotate_left
              · intro w' hSw; (try dsimp only at hSw); go_simp
                all_goals (with_reducible rfl)
              simp only [Act.put, List.getElem_toArray, List.getElem_cons_zero, List.getElem_cons_succ, List.setIfInBounds_toArray, List.set_cons_zero, List.set_cons_succ]
              refine wpAnyH_take (i := 9) (v := ?_) rfl (by kernel_rfl) (by kernel_rfl) (by kernel_rfl) (fun _ _ _ h => h) (Or.inl ⟨by kernel_rfl, ?_⟩) hHeld ?_
              rotate_left
              · intro w' hSw; (try dsimp only at hSw); go_simp
                all_goals (with_reducible rfl)
              simp only [Act.put, List.getElem_toArray, List.getElem_cons_zero, List.getElem_cons_succ, List.setIfInBounds_toArray, List.set_cons_zero, List.set_cons_succ]
              refine wpAnyH_ready (rs := [10]) (by kernel_rfl) (by simp) ?_
              refine AllReadyH.cons (o := _) rfl (fun K hK => ?_) AllReadyH.nil
              go_simp
              refine (cAA.out _ hu2H.out).mono ?_
              rintro e u3 ⟨r3, rfl, hr3, hu3⟩
              have hu3H := Lib.hid (show Step [] id id wr u3 from Step.tail hu2H.out hu3)
              obtain rfl : r3 = true := hr3.2 rfl
              have ha3 := Step.at hu3H.out hVaH.out (by simp)
              have hb3 := Step.at hu3H.out hVbH.out (by simp)
              have hc3 := Step.at hu3H.out hVcH.out (by simp)
              have hq3 := s18 ha3 hb3 hc3
              clear ha3 hb3 hc3
              clear hr3 hu3
              go_wp2_with fail
              refine hK.out _ _ ?_ (fun hHeld => ?_)
              · exact hq3
              clear hK K
              refine wpAnyH_take (i := 11) (v := ?_) rfl (by kernel_rfl) (by kernel_rfl) (by kernel_rfl) (fun _ _ _ h => h) (Or.inl ⟨by kernel_rfl, ?_⟩) hHeld ?_
              rotate_left
              · intro w' hSw; (try dsimp only at hSw); go_simp
                all_goals (with_reducible rfl)
              simp only [Act.put, List.getElem_toArray, List.getElem_cons_zero, List.getElem_cons_succ, List.setIfInBounds_toArray, List.set_cons_zero, List.set_cons_succ]
              refine wpAnyH_take (i := 12) (v := ?_) rfl (by kernel_rfl) (by kernel_rfl) (by kernel_rfl) (fun _ _ _ h => h) (Or.inl ⟨by kernel_rfl, ?_⟩) hHeld ?_
              rotate_left
              · intro w' hSw; (try dsimp only at hSw); go_simp
                all_goals (with_reducible rfl)
              simp only [Act.put, List.getElem_toArray, List.getElem_cons_zero, List.getElem_cons_succ, List.setIfInBounds_toArray, List.set_cons_zero, List.set_cons_succ]
              refine wpAnyH_take (i := 13) (v := ?_) rfl (by kernel_rfl) (by kernel_rfl) (by kernel_rfl) (fun _ _ _ h => h) (Or.inl ⟨by kernel_rfl, ?_⟩) hHeld ?_
              rotate_left
              · intro w' hSw; (try dsimp only at hSw); go_simp
                all_goals (with_reducible rfl)
              simp only [Act.put, List.getElem_toArray, List.getElem_cons_zero, List.getElem_cons_succ, List.setIfInBounds_toArray, List.set_cons_zero, List.set_cons_succ]
              refine wpAnyH_take (i := 14) (v := ?_) rfl (by kernel_rfl) (by kernel_rfl) (by kernel_rfl) (fun _ _ _ h => h) (Or.inl ⟨by kernel_rfl, ?_⟩) hHeld ?_
              rotate_left
              · intro w' hSw; (try dsimp only at hSw); go_simp
                all_goals (with_reducible rfl)
              simp only [Act.put, List.getElem_toArray, List.getElem_cons_zero, List.getElem_cons_succ, List.setIfInBounds_toArray, List.set_cons_zero, List.set_cons_succ]
              refine wpAnyH_take (i := 16) (v := ?_) rfl (by kernel_rfl) (by kernel_rfl) (by kernel_rfl) (fun _ _ _ h => h) (Or.inl ⟨by kernel_rfl, ?_⟩) hHeld ?_
              rotate_left
              · intro w' hSw; (try dsimp only at hSw); go_simp
                all_goals (with_reducible rfl)
              simp only [Act.put, List.getElem_toArray, List.getElem_cons_zero, List.getElem_cons_succ, List.setIfInBounds_toArray, List.set_cons_zero, List.set_cons_succ]
              refine wpAnyH_take (i := 17) (v := ?_) rfl (by kernel_rfl) (by kernel_rfl) (by kernel_rfl) (fun _ _ _ h => h) (Or.inl ⟨by kernel_rfl, ?_⟩) hHeld ?_
              rotate_left
              · intro w' hSw; (try dsimp only at hSw); go_simp
                all_goals (with_reducible rfl)
              simp only [Act.put, List.getElem_toArray, List.getElem_cons_zero, List.getElem_cons_succ, List.setIfInBounds_toArray, List.set_cons_zero, List.set_cons_succ]
              refine wpAnyH_ready (rs := [15]) (by kernel_rfl) (by simp) ?_
              refine AllReadyH.cons (o := _) rfl (fun K hK => ?_) AllReadyH.nil
              go_simp
              refine (cAC.out _ hu3H.out).mono ?_
              rintro e u4 ⟨r4, rfl, hr4, hu4⟩
              have hu4H := Lib.hid (show Step [] id id wr u4 from Step.tail hu3H.out hu4)
              obtain rfl := hc0.out r4 hr4
              have ha4 := Step.at hu4H.out hVaH.out (by simp)
              have hb4 := Step.at hu4H.out hVbH.out (by simp)
              have hc4 := Step.at hu4H.out hVcH.out (by simp)
              have hq4 := s18 ha4 hb4 hc4
              clear ha4 hb4 hc4
              clear hr4 hu4
              go_wp2_with fail
              refine hK.out _ _ ?_ (fun hHeld => ?_)
              · exact hq4
              clear hK K
              refine wpAnyH_take (i := 18) (v := ?_) rfl (by kernel_rfl) (by kernel_rfl) (by kernel_rfl) (fun _ _ _ h => h) (Or.inl ⟨by kernel_rfl, ?_⟩) hHeld ?_
              rotate_left
              · intro w' hSw; (try dsimp only at hSw); go_simp
                all_goals (with_reducible rfl)
              simp only [Act.put, List.getElem_toArray, List.getElem_cons_zero, List.getElem_cons_succ, List.setIfInBounds_toArray, List.set_cons_zero, List.set_cons_succ]
              refine wpAnyH_take (i := 19) (v := ?_) rfl (by kernel_rfl) (by kernel_rfl) (by kernel_rfl) (fun _ _ _ h => h) (Or.inl ⟨by kernel_rfl, ?_⟩) hHeld ?_
              rotate_left
              · intro w' hSw; (try dsimp only at hSw); go_simp
                all_goals (with_reducible rfl)
              simp only [Act.put, List.getElem_toArray, List.getElem_cons_zero, List.getElem_cons_succ, List.setIfInBounds_toArray, List.set_cons_zero, List.set_cons_succ]
              refine wpAnyH_take (i := 20) (v := ?_) rfl (by kernel_rfl) (by kernel_rfl) (by kernel_rfl) (fun _ _ _ h => h) (Or.inl ⟨by kernel_rfl, ?_⟩) hHeld ?_
              rotate_left
              · intro w' hSw; (try dsimp only at hSw); go_simp
                all_goals (with_reducible rfl)
              simp only [Act.put, List.getElem_toArray, List.getElem_cons_zero, List.getElem_cons_succ, List.setIfInBounds_toArray, List.set_cons_zero, List.set_cons_succ]
              refine wpAnyH_done (by kernel_rfl) ?_ _
              clear hq1 hq2 hq3 hq4 hHeld
              go_wp2_with fail
              go_ret
              exact ⟨rfl, hswrH.out.tail hu4H.out⟩
end Go.Proofs.YtbkmnhogfegmcaaDoor
