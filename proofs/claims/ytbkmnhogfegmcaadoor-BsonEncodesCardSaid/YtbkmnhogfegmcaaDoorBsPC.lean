/- The law BsonEncodes. -/
import Derived.Test.YtbkmnhogfegmcaaDoorBsPB
import Derived.Test.YtbkmnhogfegmcaaDoorBsC1
set_option linter.unusedVariables false
set_option linter.unusedSimpArgs false
namespace Go.Proofs.YtbkmnhogfegmcaaDoor
open Go.RowKit

theorem conv_nil (w : World) : (convert 22 9 (.slice none 0 0)).run Tryd.prog w = .ok (.string (strOf [])) w :=
  BIn.str (P := fun _ => True) (.inl ⟨none, 0, rfl, rfl, fun _ => rfl⟩)
theorem size_no {x : Val} (h : okDoc x = false) : sizeOf_ x = 0 := by unfold sizeOf_; rw [h]; rfl
theorem size_ok {x : Val} (h : okDoc x = true) : sizeOf_ x = (wrapDoc (encFs x.f)).length := by unfold sizeOf_; rw [h]; rfl
set_option maxRecDepth 100000 in
set_option maxHeartbeats 8000000 in
theorem law_encodes {w : World} {x : Val} {cs : List Value} (ht : Tw w) (hx : VIs (fun k => k < w.heap.size) w x cs) : Calls Tryd.prog 4 #[.agg cs.toArray] w fun e w' => e = .returned (.bool true) ∧ Step [] id id w w' := by
  obtain ⟨s0, ba, bn, bc, fa, fn, fc, la, ln, lc, hcs, -⟩ := hx.six
  obtain ⟨n0, hn0⟩ : ∃ k, k = x.num := ⟨_, rfl⟩
  obtain ⟨k0, hk0⟩ : ∃ k, k = x.kind := ⟨_, rfl⟩
  rw [← hk0, ← hn0] at hcs
  subst hcs
  obtain ⟨W1, hW1⟩ : ∃ W1, W1 = w.alloc (.cells #[.int .i64 k0, .int .i64 n0, .string s0, .slice ba bn bc, .slice fa fn fc, .slice la ln lc] 27) := ⟨_, rfl⟩
  have hV := Lib.hid (show W1.heap[w.heap.size]? = some (.cells #[.int .i64 k0, .int .i64 n0, .string s0, .slice ba bn bc, .slice fa fn fc, .slice la ln lc] 27 (0, 0)) by rw [hW1]; exact heap_alloc_new w _)
  have hs1 : Step [] id id w W1 := by rw [hW1]; exact Step.alloc _
  have hx1 := Lib.hid (hx.onto hs1)
  have ht1 := Lib.hid (ht.step hs1)
  have hs1H := Lib.hid hs1
  have hW1H := Lib.hid hW1
  clear hx hn0 hk0 hs1 hW1 ht
  go_enter Tryd.func4, Tryd.ntmps4
  go_wp2_with fail
  rw [← hW1H.out]
  refine (bs_awake W1 ht1.out).mono ?_
  rintro e w2 ⟨rfl, hs2⟩
  obtain ⟨v0, v1, v2, v3, v4, v5⟩ := cells_of6P (hs2.at hV.out (by simp))
  have hl2 : w.heap.size < w2.heap.size := World.block_lt_of_cell? w2 _ v0
  have hs2H := Lib.hid hs2
  clear hs2
  go_wp2_with fail
  refine (bs_small (hx1.out.onto hs2H.out)).mono ?_
  rintro e w3 ⟨r, rfl, hw, hs3⟩
  have hs3H := Lib.hid (hs2H.out.tail hs3)
  have hwH := Lib.hid hw
  clear hs3 hw v0 v1 v2 v3 v4 v5 hl2
  obtain ⟨v0, v1, v2, v3, v4, v5⟩ := cells_of6P (hs3H.out.at hV.out (by simp))
  have hl3 : w.heap.size < w3.heap.size := World.block_lt_of_cell? w3 _ v0
  cases r
  · go_wp2_with fail
    go_ret
    exact ⟨rfl, hs1H.out.tail hs3H.out⟩
  have hw := Lib.hid (hwH.out rfl)
  go_wp2_with fail
  refine (bs_encode (hx1.out.onto hs3H.out) (ht1.out.step hs3H.out)).mono ?_
  rintro e w4 hE
  cases hok : okDoc x
  · obtain ⟨rfl, hs4⟩ := hE.ill hok
    have hs4H := Lib.hid (hs3H.out.tail hs4)
    have hokH := Lib.hid hok
    clear hs4 hE hok v0 v1 v2 v3 v4 v5 hl3
    obtain ⟨v0, v1, v2, v3, v4, v5⟩ := cells_of6P (hs4H.out.at hV.out (by simp))
    have hl4 : w.heap.size < w4.heap.size := World.block_lt_of_cell? w4 _ v0
    go_wp2_with fail
    refine (ref_encode (hx1.out.onto hs4H.out) hw.out).mono ?_
    rintro e w5 ⟨xa, xn, xc, hs5, h | ⟨-, rfl⟩⟩
    · exact absurd h.1 (by rw [hokH.out]; simp)
    have hs5H := Lib.hid (hs4H.out.tail hs5)
    have hcn := conv_nil w5
    clear hs5 v0 v1 v2 v3 v4 v5 hl4
    obtain ⟨v0, v1, v2, v3, v4, v5⟩ := cells_of6P (hs5H.out.at hV.out (by simp))
    have hl5 : w.heap.size < w5.heap.size := World.block_lt_of_cell? w5 _ v0
    go_wp2_with fail
    refine (bs_may (P := fun k => k < w5.heap.size) (hx1.out.onto hs5H.out) (ht1.out.step hs5H.out)).mono ?_
    rintro e w6 ⟨rfl, hs6⟩
    rw [hokH.out]
    have hs6H := Lib.hid (hs5H.out.tail hs6)
    clear hs6 v0 v1 v2 v3 v4 v5 hl5
    obtain ⟨v0, v1, v2, v3, v4, v5⟩ := cells_of6P (hs6H.out.at hV.out (by simp))
    have hl6 : w.heap.size < w6.heap.size := World.block_lt_of_cell? w6 _ v0
    go_wp2_with fail
    refine (bs_size (P := fun k => k < w6.heap.size) (hx1.out.onto hs6H.out) (ht1.out.step hs6H.out)).mono ?_
    rintro e w7 ⟨rfl, hs7⟩
    rw [size_no hokH.out]
    have hs7H := Lib.hid (hs6H.out.tail hs7)
    clear hs7
    go_wp2_with fail
    go_ret
    exact ⟨rfl, hs1H.out.tail hs7H.out⟩
  · obtain ⟨v, rfl, hrow, hs4, hnew⟩ := hE.ok hok
    obtain ⟨B, hB⟩ : ∃ B, B = wrapDoc (encFs x.f) := ⟨_, rfl⟩
    have hBl : B.length ≤ 65536 := by have := enc_short hok hw.out; rw [hB]; omega
    have hBn : B ≠ [] := by rw [hB]; intro e; have h1 := wrapDoc_length (encFs x.f); rw [e] at h1; simp at h1
    rw [← hB] at hrow
    obtain ⟨vb, vc, rfl, hlie, hvc, hvb⟩ := hrow.some hBn
    obtain ⟨n, hn⟩ : ∃ n, n = B.length := ⟨_, rfl⟩
    rw [← hn] at hrow hvc ⊢
    have hn6 : n ≤ 65536 := by omega
    have hs4H := Lib.hid (hs3H.out.tail hs4)
    have hokH := Lib.hid hok
    have hrowH := Lib.hid hrow
    have hnH := Lib.hid hn
    have hBH := Lib.hid hB
    clear hs4 hE hok hrow hn hlie hnew hB hBl hBn v0 v1 v2 v3 v4 v5 hl3
    obtain ⟨v0, v1, v2, v3, v4, v5⟩ := cells_of6P (hs4H.out.at hV.out (by simp))
    have hl4 : w.heap.size < w4.heap.size := World.block_lt_of_cell? w4 _ v0
    go_wp2_with fail
    refine (ref_encode (hx1.out.onto hs4H.out) hw.out).mono ?_
    rintro e w5 ⟨xa, xn, xc, hs5, ⟨-, rfl, hxn, hbin⟩ | h⟩
    rotate_left
    · exact absurd h.1 (by rw [hokH.out]; simp)
    rw [← hBH.out] at hxn hbin
    obtain rfl : n = xn := by rw [hnH.out, hxn]
    obtain ⟨T, hT⟩ : ∃ T, T = strOf B := ⟨_, rfl⟩
    have hrow5 : Row w5 (.slice (some ⟨vb, 0, none⟩) n vc) B := ownsRow_step hrowH.out hs5 (fun k _ => by simp)
    have hc1 := (row_bin (Q := fun _ => True) hrow5 (fun _ _ => trivial)).str
    have hc2 := hbin.str
    rw [← hT] at hc1 hc2
    have hTT : (T.toList != T.toList) = false := by simp
    have hs5H := Lib.hid (hs4H.out.tail hs5)
    have hrow5H := Lib.hid hrow5
    clear hs5 hxn hbin hrow5 hT v0 v1 v2 v3 v4 v5 hl4
    obtain ⟨v0, v1, v2, v3, v4, v5⟩ := cells_of6P (hs5H.out.at hV.out (by simp))
    have hl5 : w.heap.size < w5.heap.size := World.block_lt_of_cell? w5 _ v0
    go_wp2_with fail
    refine (bs_may (P := fun k => k < w5.heap.size) (hx1.out.onto hs5H.out) (ht1.out.step hs5H.out)).mono ?_
    rintro e w6 ⟨rfl, hs6⟩
    rw [hokH.out]
    have hs6H := Lib.hid (hs5H.out.tail hs6)
    have hrow6H := Lib.hid (show Row w6 (.slice (some ⟨vb, 0, none⟩) n vc) B from ownsRow_step hrow5H.out hs6 (fun k _ => by simp))
    clear hs6 hc1 hc2 v0 v1 v2 v3 v4 v5 hl5
    obtain ⟨v0, v1, v2, v3, v4, v5⟩ := cells_of6P (hs6H.out.at hV.out (by simp))
    have hl6 : w.heap.size < w6.heap.size := World.block_lt_of_cell? w6 _ v0
    go_wp2_with fail
    refine (bs_size (P := fun k => k < w6.heap.size) (hx1.out.onto hs6H.out) (ht1.out.step hs6H.out)).mono ?_
    rintro e w7 ⟨rfl, hs7⟩
    rw [size_ok hokH.out, ← hBH.out, ← hnH.out]
    have hs7H := Lib.hid (hs6H.out.tail hs7)
    have hrow7 : Row w7 (.slice (some ⟨vb, 0, none⟩) n vc) B := ownsRow_step hrow6H.out hs7 (fun k _ => by simp)
    have hdec : decode B = .ok x B.length := decode_encode (by unfold encode; rw [hokH.out, if_pos rfl, ← hBH.out])
    have hdc := bs_decode hrow7.bin (by rw [← hnH.out]; omega) (ht1.out.step hs7H.out)
    rw [hdec] at hdc
    have hdcH := Lib.hid hdc
    have hnn : ((n : Int) != (n : Int)) = false := by simp
    clear hs7 hrow7 hdec hdc v0 v1 v2 v3 v4 v5 hl6
    go_wp2_with fail
    refine hdcH.out.mono ?_
    rintro e w8 ⟨hs8, ds, rfl, hxd⟩
    have hxd2 : VIs (fun k => w7.heap.size ≤ k) w8 x ds := hxd
    obtain ⟨s9, ba9, bn9, bc9, fa9, fn9, fc9, la9, ln9, lc9, hds, -⟩ := hxd2.six
    obtain ⟨n9, hn9⟩ : ∃ k, k = x.num := ⟨_, rfl⟩
    obtain ⟨k9, hk9⟩ : ∃ k, k = x.kind := ⟨_, rfl⟩
    rw [← hk9, ← hn9] at hds
    subst hds
    have hs8H := Lib.hid (hs7H.out.tail hs8)
    have hxdH := Lib.hid hxd2
    obtain ⟨v0, v1, v2, v3, v4, v5⟩ := cells_of6P (hs8H.out.at hV.out (by simp))
    have hl8 : w.heap.size < w8.heap.size := World.block_lt_of_cell? w8 _ v0
    have hrs := Lib.hid (fun (W : World) (hW : Step [] id id w8 W) => ref_same (P := fun _ => True) ((hx1.out.onto (hs8H.out.tail hW)).keep (P2 := fun _ => True) (fun _ _ => trivial) (fun _ _ _ => rfl)) (hxd2.keep (P2 := fun _ => True) (w' := W) (fun _ _ => trivial) (fun k hP hk => (hW.keep k hk (by simp)).2)))
    have he0 : errOf (.ok x B.length) = 0 := rfl
    rw [he0]
    clear hs8 hxd hxd2 hn9 hk9 he0
    go_wp2_with fail
    refine (hrs.out _ (Step.alloc _)).mono ?_
    rintro e w9 ⟨r9, rfl, hr9, hs9⟩
    obtain rfl : r9 = true := hr9.2 rfl
    have hs9H := Lib.hid hs9
    clear hs9 hr9
    go_wp2_with fail
    go_ret
    exact ⟨rfl, (hs1H.out.tail hs8H.out).tail ((Step.alloc _).tail hs9H.out)⟩
end Go.Proofs.YtbkmnhogfegmcaaDoor
