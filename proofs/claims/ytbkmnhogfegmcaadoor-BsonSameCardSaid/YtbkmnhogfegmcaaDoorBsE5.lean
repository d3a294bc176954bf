/- bson: what the encoder writes of fields. -/
import Derived.Test.YtbkmnhogfegmcaaDoorBsE4
set_option linter.unusedVariables false
set_option linter.unusedSimpArgs false
namespace Go.Proofs.YtbkmnhogfegmcaaDoor
open Go.RowKit

theorem Row.tail0 {w : World} {ad : Option Addr} {N c : Nat} {m : Bs} {x : UInt8} (h : Row w (.slice ad N c) (m ++ [x])) : ∃ g, ad = Option.some ⟨g, 0, none⟩ ∧ N ≤ c ∧ N = m.length + 1 := by
  have hN := h.len
  rw [List.length_append, List.length_singleton] at hN
  rcases h.2 with ⟨e, h0⟩ | ⟨g, cap, cur, e, _, h1, h2, _⟩
  · simp at h0
  · injection e with e1 e2 e3
    exact ⟨g, e1, by rw [e2, e3]; exact h2, hN⟩
theorem encFs_append : ∀ (a b : List (Bs × Val)), encFs (a ++ b) = encFs a ++ encFs b
  | [], b => by simp [encFs]
  | (nm, v) :: r, b => by simp [encFs, encFs_append r b]
theorem encFs_take (f : List (Bs × Val)) (j : Nat) (h : j < f.length) : encFs (f.take (j + 1)) = encFs (f.take j) ++ (codeOf f[j].2.kind :: (f[j].1 ++ (0 :: encV f[j].2))) := by
  rw [List.take_succ_eq_append_getElem h, encFs_append]
  cases hf : f[j] with
  | mk nm v => simp [encFs]
theorem encFs_take_le (f : List (Bs × Val)) (j : Nat) : (encFs (f.take j)).length ≤ (encFs f).length := by
  conv => rhs; rw [← List.take_append_drop j f]
  rw [encFs_append, List.length_append]; omega

set_option maxRecDepth 100000 in
set_option maxHeartbeats 4000000 in
theorem enc_fields (N : Nat) (hV : ∀ M, M < N → EncV M) : EncF N := by
  intro P f fa fc v l w hN hfc hf hrow hlen hlies
  have hwl := wrapDoc_length (encFs f)
  have hflen := encFs_len f
  have hb0 : l.length + ((encFs f).length + 5) ≤ 200000 := by rw [← hwl]; exact hlen
  have hNb : (encFs f).length + 5 ≤ N := by rw [← hwl]; exact hN
  have hNbH := Lib.hid hNb
  have hb0H := Lib.hid hb0
  have hfl : f.length ≤ 200000 := by omega
  obtain ⟨va, vN, vc, rfl, hvN⟩ := hrow.shapeN
  have c1 := bs_lay _ l 0 4 w (by omega) (by omega) (by omega) hrow
  have c1H := Lib.hid c1
  have hfH := Lib.hid hf
  have hliesH := Lib.hid hlies
  have hrowH := Lib.hid hrow
  have hvNH := Lib.hid hvN
  have hltv := fun k hk => (World.ownsRow.lt hrow k hk).2
  have hltvH := Lib.hid hltv
  have hlb : l.length ≤ 199995 := by omega
  clear c1 hf hlies hrow hlen hwl hflen hN hNb hltv hvN hb0
  go_enter Tryd.func29, Tryd.ntmps29
  go_wp2_with (go_at_call 60; refine c1H.out.mono ?_; rintro e w1 ⟨v1, rfl, hr1, hg1⟩; have hr1H := Lib.hid hr1; have hg1H := Lib.hid hg1; clear hr1 hg1)
  go_loopw [0, 14] (fun bv i wr => ∃ j : Nat, i = .int .i64 j ∧ j ≤ f.length ∧ Row wr bv (l ++ (layI 4 0 ++ encFs (f.take j))) ∧ Grew w (.slice va vN vc) wr bv) (fun _ i _ => f.length - (intOf i).toNat)
  case atStart => exact ⟨0, rfl, Nat.zero_le _, by simpa [encFs] using hr1H.out, hg1H.out⟩
  case round =>
    obtain ⟨j, rfl, hj, hrow, hgr⟩ := hrel
    obtain ⟨ad, M0, c, rfl, -⟩ := hrow.shapeN
    have hrowH := Lib.hid hrow
    have hgrH := Lib.hid hgr
    have hlsH := Lib.hid (hliesH.out.grew hgr)
    clear hrow hgr
    by_cases hjl : j < f.length
    · have hjl1 : (j : Int) < (f.length : Int) := by omega
      have hj0 : (0 : Int) ≤ (j : Int) := by omega
      have hfw := FIs.keep (fun _ h => h) (fun k hP hk => hliesH.out.old hgrH.out k hP hk) f fa 0 hfH.out
      obtain ⟨b, o, cs, hae, hPb, hnl, hrng, hx⟩ := hfw.get hjl
      subst hae
      obtain ⟨s0, ba, bn, bc, fa2, fn, fc2, la2, ln, lc2, hcs, -⟩ := hx.six
      have hlenj : (encFs (f.take (j + 1))).length ≤ (encFs f).length := encFs_take_le f (j + 1)
      have htk := encFs_take f j hjl
      obtain ⟨nm, hnm⟩ : ∃ nm, nm = f[j].1 := ⟨_, rfl⟩
      obtain ⟨x, hxe⟩ : ∃ x, x = f[j].2 := ⟨_, rfl⟩
      rw [← hnm] at hrng hnl htk
      rw [← hxe] at hx hcs htk
      obtain ⟨n0, hn0⟩ : ∃ k, k = x.num := ⟨_, rfl⟩
      obtain ⟨k0, hk0⟩ : ∃ k, k = x.kind := ⟨_, rfl⟩
      obtain ⟨nms, hnms⟩ : ∃ k, k = strOf nm := ⟨_, rfl⟩
      rw [← hk0, ← hn0] at hcs
      rw [← hk0] at htk
      rw [hcs, Nat.zero_add, ← hnms] at hrng
      subst hcs
      have q0 := hrng 0 _ rfl
      have q1 := hrng 1 _ rfl
      have q2 := hrng 2 _ rfl
      have q3 := hrng 3 _ rfl
      have q4 := hrng 4 _ rfl
      have q5 := hrng 5 _ rfl
      have q6 := hrng 6 _ rfl
      rw [Nat.add_zero] at q0
      have hltad := fun k hk => (World.ownsRow.lt hrowH.out k hk).2
      have htl : (encFs (f.take j)).length + (nm.length + (encV x).length + 2) ≤ (encFs f).length := by
        rw [htk] at hlenj
        simp only [List.length_append, List.length_cons] at hlenj
        omega
      have hxH := Lib.hid hx
      have htkH := Lib.hid htk
      have htlH := Lib.hid htl
      have hnmsH := Lib.hid hnms
      obtain ⟨m, hm⟩ : ∃ m, m = l ++ (layI 4 0 ++ encFs (f.take j)) := ⟨_, rfl⟩
      have hml : m.length = l.length + 4 + (encFs (f.take j)).length := by rw [hm]; simp only [List.length_append, layI_length]; omega
      rw [← hm] at hrowH
      have hmH := Lib.hid hm
      have hmlH := Lib.hid hml
      obtain ⟨W1, hW1⟩ : ∃ W1, W1 = wr.alloc (.cells #[.string nms, .int .i64 k0, .int .i64 n0, .string s0, .slice ba bn bc, .slice fa2 fn fc2, .slice la2 ln lc2] 44) := ⟨_, rfl⟩
      have hrow1H := Lib.hid (show Row W1 (.slice ad M0 c) m by rw [hW1]; exact World.ownsRow.alloc hrowH.out _)
      have hgW := Lib.hid (show wr.grownBy W1 none by rw [hW1]; exact World.grownBy_alloc wr _ none)
      have hblk := Lib.hid (show W1.heap[wr.heap.size]? = some (.cells #[.string nms, .int .i64 k0, .int .i64 n0, .string s0, .slice ba bn bc, .slice fa2 fn fc2, .slice la2 ln lc2] 44 (0, 0)) by rw [hW1]; exact heap_alloc_new wr _)
      have hkeep : ∀ (W : World) (v' : Value), Grew W1 (.slice ad M0 c) W v' → W.heap[wr.heap.size]? = some (.cells #[.string nms, .int .i64 k0, .int .i64 n0, .string s0, .slice ba bn bc, .slice fa2 fn fc2, .slice la2 ln lc2] 44 (0, 0)) := fun W v' hg => by
        refine (hg.grown.block _ (lt_of_block hblk.out) (fun e => ?_)).trans hblk.out
        have := hltad _ e.symm
        omega
      have hkeepH := Lib.hid hkeep
      have hwrap : IntKind.i64.wrap ((j : Int) + 1) = (j : Int) + 1 := IntWalk.i64_in _ (by omega)
      have hlt1 : wr.heap.size < W1.heap.size := lt_of_block hblk.out
      have hB1 := Lib.hid (show wr.heap.size + 1 = W1.heap.size by rw [hW1]; simp)
      clear hrng hx htk hn0 hk0 hnms hnm hxe hlenj htl hm hml hkeep hltad hfw
      go_wp2_with (first
        | (go_at_call 61; refine (bs_code k0 _).mono ?_; rintro e w' ⟨rfl, rfl⟩)
        | (at_builtin; rw [← hW1]; refine wpList_put_byte rfl _ _ rfl (by rfl) hrow1H.out (codeOf k0) (by rfl) (by first | rfl | exact hB1.out) (by rfl) (by rw [hmlH.out]; have := htlH.out; have := hb0H.out; omega) ?_; intro va2 vN2 vc2 w2 hr2 hg2; have p0 : w2.cell? ⟨wr.heap.size, 0, none⟩ = some (.string nms) := cell_blk (hkeepH.out _ _ hg2) rfl; have hr2H := Lib.hid hr2; have hg2H := Lib.hid hg2; clear hr2 hg2)
        | (at_builtin; refine wpList_put_str rfl _ _ rfl (by rfl) hr2H.out nm (by rw [← hnmsH.out]; rfl) (by rw [List.length_append, hmlH.out]; simp only [List.length_singleton]; have := htlH.out; have := hb0H.out; omega) ?_; intro va3 vN3 vc3 w3 hr3 hg3; have hr3H := Lib.hid hr3; have hg3H := Lib.hid (hg2H.out.trans hg3); clear hr3 hg3)
        | (at_builtin; refine wpList_put_byte rfl _ _ rfl (by rfl) hr3H.out 0 (by rfl) (by first | rfl | exact hB1.out) (by rfl) (by simp only [List.length_append, List.length_singleton]; rw [hmlH.out]; have := htlH.out; have := hb0H.out; omega) ?_; intro va4 vN4 vc4 w4 hr4 hg4; have hg4b := hg3H.out.trans hg4; have hb4 := hkeepH.out _ _ hg4b; have p1 : w4.cell? ⟨wr.heap.size, 1, none⟩ = some (.int .i64 k0) := cell_blk hb4 rfl; have p2 : w4.cell? ⟨wr.heap.size, 2, none⟩ = some (.int .i64 n0) := cell_blk hb4 rfl; have p3 : w4.cell? ⟨wr.heap.size, 3, none⟩ = some (.string s0) := cell_blk hb4 rfl; have p4 : w4.cell? ⟨wr.heap.size, 4, none⟩ = some (.slice ba bn bc) := cell_blk hb4 rfl; have p5 : w4.cell? ⟨wr.heap.size, 5, none⟩ = some (.slice fa2 fn fc2) := cell_blk hb4 rfl; have p6 : w4.cell? ⟨wr.heap.size, 6, none⟩ = some (.slice la2 ln lc2) := cell_blk hb4 rfl; have hr4H := Lib.hid hr4; have hg4H := Lib.hid hg4b; clear hr4 hg4 hg4b hb4))
      have hg04 : Grew wr (.slice ad M0 c) w4 (.slice va4 vN4 vc4) := Grew.left hgW.out hg4H.out
      have hx4 := hxH.out.keep (fun _ h => h) (fun k hP hk => hlsH.out.old hg04 k hP hk)
      have hcall := hV (encV x).length (by have := hNbH.out; have := htlH.out; omega) P x _ _ _ w4 (Nat.le_refl _) hx4 hr4H.out (by simp only [List.length_append, List.length_singleton]; rw [hmlH.out]; have := htlH.out; have := hb0H.out; omega) (hlsH.out.grew hg04)
      refine hcall.mono ?_
      rintro e w5 ⟨v5, rfl, hr5, hg5⟩
      have hr5H := Lib.hid hr5
      have hg5H := Lib.hid (hg04.trans hg5)
      clear hr5 hg5 hg04 hx4 hcall p0 p1 p2 p3 p4 p5 p6 q0 q1 q2 q3 q4 q5 q6
      go_wp2_with fail
      go_roundw
      case rel =>
        refine ⟨j + 1, rfl, by omega, ?_, hgrH.out.trans hg5H.out⟩
        have h1 := hr5H.out
        rw [hmH.out] at h1
        rw [htkH.out]
        simpa using h1
      case measure => simp [intOf]; omega
    · have hjl1 : ¬ (j : Int) < (f.length : Int) := by omega
      have hje : f.take j = f := List.take_of_length_le (by omega)
      rw [hje] at hrowH
      obtain ⟨m, hm⟩ : ∃ m, m = l ++ (layI 4 0 ++ encFs f) := ⟨_, rfl⟩
      rw [← hm] at hrowH
      have hml : m.length = l.length + 4 + (encFs f).length := by rw [hm]; simp only [List.length_append, layI_length]; omega
      have hmH := Lib.hid hm
      have hmlH := Lib.hid hml
      clear hm hml hje
      go_wp2_with (at_builtin; refine wpList_put_byte rfl _ _ rfl (by rfl) hrowH.out 0 (by rfl) (by rfl) (by rfl) (by rw [hmlH.out]; have := hb0H.out; omega) ?_; intro va2 vN2 vc2 w2 hr2 hg2; obtain ⟨g2, rfl, hc2, hN2⟩ := hr2.tail0; have e1 := hmlH.out; have e2 := hvNH.out; have hle : vN ≤ vc2 := (by omega); have hle2 : (vN : Int) ≤ (vc2 : Int) := (by omega); clear e1 e2; have hN2H := Lib.hid hN2; have hr2H := Lib.hid hr2; have hg2H := Lib.hid hg2; clear hr2 hg2 hN2)
      have e1 := hmlH.out
      have e2 := hvNH.out
      have e3 := hN2H.out
      have e4 := hb0H.out
      have hsum : wrap64 ((vN2 : Int) - (vN : Int)) = (((encFs f).length + 5 : Nat) : Int) := by
        rw [wrap_id (by omega) (by omega)]; omega
      rw [hsum, show ((4 : Int) = ((4 : Nat) : Int)) from rfl, e2]
      have hr3 : Row w2 (.slice (some ⟨g2, 0, none⟩) vN2 vc2) (l ++ (layI 4 0 ++ (encFs f ++ [0]))) := by
        have := hr2H.out
        rw [hmH.out] at this
        simpa using this
      refine (bs_lay_over l (layI 4 0) (encFs f ++ [0]) (((encFs f).length + 5 : Nat) : Int) g2 vN2 vc2 w2 (layI_length _ _) (by omega) (by omega) hr3).mono ?_
      rintro e w3 ⟨⟨v3, rfl⟩, hr4, hg4⟩
      have hr4H := Lib.hid hr4
      have hg4H := Lib.hid hg4
      clear hr3 hr4 hg4 e1 e2 e3 e4 hsum
      go_wp2_with fail
      go_ret
      exact ⟨_, rfl, hr4H.out, (hgrH.out.trans hg2H.out).trans ⟨hg4H.out, fun k hk => .inl hk⟩⟩

/-- THE ENCODER's CONTRACTS, whatever the size. -/
theorem enc_all : ∀ N, EncF N ∧ EncV N := by
  intro N
  induction N using Nat.strongRecOn with
  | ind N ih =>
    have h := enc_fields N (fun M hM => (ih M hM).2)
    exact ⟨h, enc_value N h⟩
end Go.Proofs.YtbkmnhogfegmcaaDoor
