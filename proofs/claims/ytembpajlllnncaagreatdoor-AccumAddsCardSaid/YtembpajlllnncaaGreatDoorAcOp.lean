/- Values that are few and small. Values that are few; a small value may be or may not be. AccumOrder, plain: what numbers come to; states that keep one value. -/
import Derived.Test.YtembpajlllnncaaGreatDoorAcK1
import Derived.Test.YtembpajlllnncaaGreatDoorAcPe
import Derived.Test.YtembpajlllnncaaGreatDoorAcJ
set_option linter.unusedVariables false
set_option linter.unusedSimpArgs false
namespace Go.Proofs.YtembpajlllnncaaGreatDoor
open Go.RowKit

/-- What Weight answers: no more than a bound counted. -/
def WOk (most r : Int) (W : Nat) : Prop := 1 ≤ r ∧ r ≤ (most + 2) * 281474976710656 ∧ (r ≤ most → r = W)
def WInt (most : Int) (x : Val) (w : World) (e : Ending) (w' : World) : Prop := ∃ r : Int, e = .returned (.int .i64 r) ∧ WOk most r (weightV x) ∧ Step [] id id w w'
def AnyInt (w : World) (e : Ending) (w' : World) : Prop := ∃ r : Int, e = .returned (.int .i64 r) ∧ Step [] id id w w'
/-- Small: a bound, if it says so. -/
def SBool (x : Val) (w : World) (e : Ending) (w' : World) : Prop := ∃ r : Bool, e = .returned (.bool r) ∧ (r = true → weightV x ≤ 3000) ∧ Step [] id id w w'
def AnyBool (w : World) (e : Ending) (w' : World) : Prop := ∃ r : Bool, e = .returned (.bool r) ∧ Step [] id id w w'
def WeightC (N : Nat) : Prop := ∀ (P : Nat → Prop) (x : Val) (cs : List Value) (most : Int) (w : World), SizeOf.sizeOf x < N → 0 ≤ most → most ≤ 3000 → VIs P w x cs → Calls Tryz.prog 19 #[.agg cs.toArray, .int .i64 most] w (WInt most x w)
def ShallowC (N : Nat) : Prop := ∀ (P : Nat → Prop) (x : Val) (cs : List Value) (most : Int) (w : World), SizeOf.sizeOf x < N → VIs P w x cs → Calls Tryz.prog 37 #[.agg cs.toArray, .int .i64 most] w (AnyBool w)
set_option maxRecDepth 100000 in
set_option maxHeartbeats 4000000 in
theorem weight_step (N : Nat) (ih : WeightC N) : WeightC (N + 1) := by
 intro P x cs most w hN hm0 hm1 hx
 obtain ⟨sl, hsl⟩ : ∃ sl, sl = x.s.length := ⟨_, rfl⟩
 have hsl2 : sl ≤ 140737488351232 := by obtain ⟨_, _, _, _, _, _, _, _, _, h, _⟩ := hx.cells; rw [hsl]; exact h.1
 obtain ⟨bl, hbl⟩ : ∃ bl, bl = x.b.length := ⟨_, rfl⟩
 have hbl2 : bl ≤ 140737488351232 := by obtain ⟨_, _, _, _, _, _, _, _, _, h, _⟩ := hx.cells; rw [hbl]; exact h.2.1
 obtain ⟨BASE, hB⟩ : ∃ B, B = 1 + sl + bl := ⟨_, rfl⟩
 have hBASE := Lib.hid (show BASE = 1 + x.s.length + x.b.length by rw [hB, hsl, hbl])
 obtain ⟨S0, hS0⟩ : ∃ S0, S0 = strOf x.s := ⟨_, rfl⟩
 have hs0z : S0.size = sl := by rw [hS0, strOf_size, hsl]
 have hS0H := Lib.hid hS0
 have hblH := Lib.hid hbl
 clear hsl hbl hS0
 obtain ⟨bv, fa, fc, la, lc, hcs, hb, ⟨hfc, hlc, hfn, hln⟩, -, ⟨hs2, hb2, hf2, hl2⟩, hf, hl⟩ := hx.cells
 obtain ⟨ba, bc, rfl⟩ := hb.shape
 have hfs : ∀ j (h : j < x.f.length), SizeOf.sizeOf x.f[j].2 < N := fun j h => by cases x; exact Nat.lt_of_lt_of_le (f_size h) (Nat.le_of_lt_succ hN)
 have hls : ∀ j (h : j < x.l.length), SizeOf.sizeOf x.l[j] < N := fun j h => by cases x; exact Nat.lt_of_lt_of_le (l_size h) (Nat.le_of_lt_succ hN)
 have hfH := Lib.hid hf
 have hlH := Lib.hid hl
 have hfsH := Lib.hid hfs
 have hlsH := Lib.hid hls
 obtain ⟨n0, hn0⟩ : ∃ k, k = x.num := ⟨_, rfl⟩
 obtain ⟨k0, hk0⟩ : ∃ k, k = x.kind := ⟨_, rfl⟩
 obtain ⟨s0, hs0⟩ : ∃ k, k = strOf x.s := ⟨_, rfl⟩
 obtain ⟨bn, hbn⟩ : ∃ k, k = x.b.length := ⟨_, rfl⟩
 obtain ⟨ln, hlnn⟩ : ∃ k, k = x.l.length := ⟨_, rfl⟩
 obtain ⟨fn, hfnn⟩ : ∃ k, k = x.f.length := ⟨_, rfl⟩
 rw [← hk0, ← hn0, ← hs0, ← hbn, ← hlnn, ← hfnn] at hcs
 rw [← hlnn] at hl2
 rw [← hfnn] at hf2
 subst hcs
 obtain ⟨W1, hW1⟩ : ∃ W1, W1 = w.alloc (.cells #[.int .i64 k0, .int .i64 n0, .string s0, .slice ba bn bc, .slice fa fn fc, .slice la ln lc] 35) := ⟨_, rfl⟩
 have hs1 : Step [] id id w W1 := by rw [hW1]; exact Step.alloc _
 have hV := Lib.hid (show W1.heap[w.heap.size]? = some (.cells #[.int .i64 k0, .int .i64 n0, .string s0, .slice ba bn bc, .slice fa fn fc, .slice la ln lc] 35 (0, 0)) by rw [hW1]; exact heap_alloc_new w _)
 have hs1H := Lib.hid hs1
 have hlnH := Lib.hid hlnn
 have hfnH := Lib.hid hfnn
 have hW1H := Lib.hid hW1
 have hs0e := Lib.hid hs0
 have hbne := Lib.hid hbn
 clear hx hn0 hk0 hs0 hbn hlnn hfnn hs1 hW1 hf hl hfs hls hb hfc hlc hfn hln hs2 hb2
 obtain rfl : s0 = S0 := hs0e.out.trans hS0H.out.symm
 obtain rfl : bn = bl := hbne.out.trans hblH.out.symm
 have hV0 := cell_blk hV.out (i := 2) rfl
 have hV3 := cell_blk hV.out (i := 3) rfl
 have hBH := Lib.hid hB
 have hwi : wrap64 (1 + (sl : Int)) = 1 + (sl : Int) := wrap_id (by omega) (by omega)
 have hwi2 : wrap64 (1 + (sl : Int) + (bn : Int)) = 1 + (sl : Int) + (bn : Int) := wrap_id (by omega) (by omega)
 clear hB
 go_enter Tryz.func19, Tryz.ntmps19
 go_wp2_with fail
 rw [← hW1H.out]
 go_loopw [5, 6] (fun nv i wr => ∃ (r : Int) (j : Nat), nv = .int .i64 r ∧ i = .int .i64 j ∧ j ≤ fn ∧ WOk most r (BASE + weightFs (x.f.take j)) ∧ Step [] id id W1 wr) (fun _ i _ => fn - (intOf i).toNat)
 case atStart => exact ⟨_, 0, rfl, rfl, Nat.zero_le _, ⟨by omega, by omega, fun _ => by have := hBH.out; simp [weightFs]; omega⟩, Step.refl _ _ _⟩
 case round =>
  obtain ⟨r, j, rfl, rfl, hj, hwok, hst⟩ := hrel
  have hVr := hst.at hV.out (by simp)
  have v4 := cell_blk hVr (i := 4) rfl
  have v5 := cell_blk hVr (i := 5) rfl
  clear hVr
  by_cases hjl : j < fn
  ·have hjl1 : (j : Int) < (fn : Int) := by omega
   have hj0 : (0 : Int) ≤ (j : Int) := by omega
   by_cases hrm : r ≤ most
   ·have hfw := FIs.keep (P2 := P) (fun _ h => h) (fun k hP hk => (((hs1H.out.tail hst).keep k hk (by simp)).2)) x.f fa 0 hfH.out
    obtain ⟨b, o, cs, hae, hPb, hnl, hrng, hxj⟩ := hfw.get (j := j) (by rw [← hfnH.out]; exact hjl)
    subst hae
    obtain ⟨s1, ba2, bn2, bc2, fa2, fn2, fc2, la2, ln2, lc2, hcs, -⟩ := hxj.six
    have hsz := hfsH.out j (by rw [← hfnH.out]; exact hjl)
    have htk := weightFs_take x.f j (by rw [← hfnH.out]; exact hjl)
    obtain ⟨y, hy⟩ : ∃ y, y = (x.f[j]'(by rw [← hfnH.out]; exact hjl)).2 := ⟨_, rfl⟩
    obtain ⟨nm, hnm⟩ : ∃ y, y = (x.f[j]'(by rw [← hfnH.out]; exact hjl)).1 := ⟨_, rfl⟩
    rw [← hy, ← hnm] at htk
    rw [← hy] at hxj hcs hsz
    rw [← hnm] at hrng hnl
    clear hy hnm
    have htk := Lib.hid htk
    obtain ⟨n1, hn1⟩ : ∃ k, k = y.num := ⟨_, rfl⟩
    obtain ⟨k1, hk1⟩ : ∃ k, k = y.kind := ⟨_, rfl⟩
    obtain ⟨nms, hnms⟩ : ∃ k, k = strOf nm := ⟨_, rfl⟩
    have hnsz : nms.size = nm.length := by rw [hnms, strOf_size]
    rw [← hk1, ← hn1] at hcs
    rw [hcs, Nat.zero_add, ← hnms] at hrng
    subst hcs
    have q0 := hrng 0 _ rfl
    have q1 := hrng 1 _ rfl
    have q2 := hrng 2 _ rfl
    have q3 := hrng 3 _ rfl
    have q4 := hrng 4 _ rfl
    have q5 := hrng 5 _ rfl
    have q6 := hrng 6 _ rfl
    rw [Nat.add_zero] at q0
    have hxjH := Lib.hid hxj
    clear hrng hxj hn1 hk1 hnms hfw
    have hstH := Lib.hid hst
    have hwokH := Lib.hid hwok
    have hwrap : IntKind.i64.wrap ((j : Int) + 1) = (j : Int) + 1 := IntWalk.i64_in _ (by omega)
    have hr1 : 1 ≤ r := hwok.1
    have hw1 : IntKind.i64.wrap (r + (nm.length : Int)) = r + (nm.length : Int) := IntWalk.i64_in _ (by omega)
    have hw2 : IntKind.i64.wrap (most - r) = most - r := IntWalk.i64_in _ (by omega)
    clear hst hwok
    go_wp2_with fail
    have hbl := World.block_lt_of_cell? wr _ q0
    have hVl := World.block_lt_of_cell? wr _ v4
    refine wp_region_held_drew (S := fun w' => w'.cell? ⟨w.heap.size, 4, none⟩ = some (.slice (some ⟨b, o, none⟩) fn fc) ∧ w'.cell? ⟨b, o + j * 7, none⟩ = some (.string nms) ∧ w'.cell? ⟨b, o + j * 7 + 1, none⟩ = some (.int .i64 k1) ∧ w'.cell? ⟨b, o + j * 7 + 2, none⟩ = some (.int .i64 n1) ∧ w'.cell? ⟨b, o + j * 7 + 3, none⟩ = some (.string s1) ∧ w'.cell? ⟨b, o + j * 7 + 4, none⟩ = some (.slice ba2 bn2 bc2) ∧ w'.cell? ⟨b, o + j * 7 + 5, none⟩ = some (.slice fa2 fn2 fc2) ∧ w'.cell? ⟨b, o + j * 7 + 6, none⟩ = some (.slice la2 ln2 lc2)) (by kernel_rfl) ⟨v4, q0, q1, q2, q3, q4, q5, q6⟩ (fun hHeld => ?_)
    refine tkH 0 ?_ rfl (by kernel_rfl) (fun _ _ _ h => h) ?_ hHeld ?_
    rotate_left
    ·intro w' hSw; (try dsimp only at hSw); go_simp
     all_goals (with_reducible rfl)
    simp only [zP, zO, zA, zB, zC, zD, zE, zF]
    refine tkH 1 ?_ rfl (by kernel_rfl) (fun _ _ _ h => h) ?_ hHeld ?_
    rotate_left
    ·intro w' hSw; (try dsimp only at hSw); go_simp
     all_goals (with_reducible rfl)
    simp only [zP, zO, zA, zB, zC, zD, zE, zF]
    refine tkH 2 ?_ rfl (by kernel_rfl) (fun _ _ _ h => h) ?_ hHeld ?_
    rotate_left
    ·intro w' hSw; (try dsimp only at hSw); go_simp
     all_goals (with_reducible rfl)
    simp only [zP, zO, zA, zB, zC, zD, zE, zF]
    refine tkH 3 ?_ rfl (by kernel_rfl) (fun _ _ _ h => h) ?_ hHeld ?_
    rotate_left
    ·intro w' hSw; (try dsimp only at hSw); go_simp
     all_goals (with_reducible rfl)
    simp only [zP, zO, zA, zB, zC, zD, zE, zF]
    refine tkH 4 ?_ rfl (by kernel_rfl) (fun _ _ _ h => h) ?_ hHeld ?_
    rotate_left
    ·intro w' hSw; (try dsimp only at hSw); go_simp
     all_goals (with_reducible rfl)
    simp only [zP, zO, zA, zB, zC, zD, zE, zF]
    refine tkH 5 ?_ rfl (by kernel_rfl) (fun _ _ _ h => h) ?_ hHeld ?_
    rotate_left
    ·intro w' hSw; (try dsimp only at hSw); go_simp
     all_goals (with_reducible rfl)
    simp only [zP, zO, zA, zB, zC, zD, zE, zF]
    refine tkH 6 ?_ rfl (by kernel_rfl) (fun _ _ _ h => h) ?_ hHeld ?_
    rotate_left
    ·intro w' hSw; (try dsimp only at hSw); go_simp
     all_goals (with_reducible rfl)
    simp only [zP, zO, zA, zB, zC, zD, zE, zF]
    refine tkH 7 ?_ rfl (by kernel_rfl) (fun _ _ _ h => h) ?_ hHeld ?_
    rotate_left
    ·intro w' hSw; (try dsimp only at hSw); go_simp
     all_goals (with_reducible rfl)
    simp only [zP, zO, zA, zB, zC, zD, zE, zF]
    refine tkH 8 ?_ rfl (by kernel_rfl) (fun _ _ _ h => h) ?_ hHeld ?_
    rotate_left
    ·intro w' hSw; (try dsimp only at hSw); go_simp
     all_goals (with_reducible rfl)
    simp only [zP, zO, zA, zB, zC, zD, zE, zF]
    refine tkH 9 ?_ rfl (by kernel_rfl) (fun _ _ _ h => h) ?_ hHeld ?_
    rotate_left
    ·intro w' hSw; (try dsimp only at hSw); go_simp
     all_goals (with_reducible rfl)
    simp only [zP, zO, zA, zB, zC, zD, zE, zF]
    refine tkH 10 ?_ rfl (by kernel_rfl) (fun _ _ _ h => h) ?_ hHeld ?_
    rotate_left
    ·intro w' hSw; (try dsimp only at hSw); go_simp
     all_goals (with_reducible rfl)
    simp only [zP, zO, zA, zB, zC, zD, zE, zF]
    refine tkH 11 ?_ rfl (by kernel_rfl) (fun _ _ _ h => h) ?_ hHeld ?_
    rotate_left
    ·intro w' hSw; (try dsimp only at hSw); go_simp
     all_goals (with_reducible rfl)
    simp only [zP, zO, zA, zB, zC, zD, zE, zF]
    refine tkH 12 ?_ rfl (by kernel_rfl) (fun _ _ _ h => h) ?_ hHeld ?_
    rotate_left
    ·intro w' hSw; (try dsimp only at hSw); go_simp
     all_goals (with_reducible rfl)
    simp only [zP, zO, zA, zB, zC, zD, zE, zF]
    refine tkH 13 ?_ rfl (by kernel_rfl) (fun _ _ _ h => h) ?_ hHeld ?_
    rotate_left
    ·intro w' hSw; (try dsimp only at hSw); go_simp
     all_goals (with_reducible rfl)
    simp only [zP, zO, zA, zB, zC, zD, zE, zF]
    refine tkH 14 ?_ rfl (by kernel_rfl) (fun _ _ _ h => h) ?_ hHeld ?_
    rotate_left
    ·intro w' hSw; (try dsimp only at hSw); go_simp
     all_goals (with_reducible rfl)
    simp only [zP, zO, zA, zB, zC, zD, zE, zF]
    refine tkH 15 ?_ rfl (by kernel_rfl) (fun _ _ _ h => h) ?_ hHeld ?_
    rotate_left
    ·intro w' hSw; (try dsimp only at hSw); go_simp
     all_goals (with_reducible rfl)
    simp only [zP, zO, zA, zB, zC, zD, zE, zF]
    refine tkH 16 ?_ rfl (by kernel_rfl) (fun _ _ _ h => h) ?_ hHeld ?_
    rotate_left
    ·intro w' hSw; (try dsimp only at hSw); go_simp
     all_goals (with_reducible rfl)
    simp only [zP, zO, zA, zB, zC, zD, zE, zF]
    refine tkH 17 ?_ rfl (by kernel_rfl) (fun _ _ _ h => h) ?_ hHeld ?_
    rotate_left
    ·intro w' hSw; (try dsimp only at hSw); go_simp
     all_goals (with_reducible rfl)
    simp only [zP, zO, zA, zB, zC, zD, zE, zF]
    refine wpAnyH_ready (rs := [18]) (by kernel_rfl) (by simp) ?_
    refine AllReadyH.cons (o := _) rfl (fun K hK => ?_) AllReadyH.nil
    go_simp
    refine (ih P y _ _ wr.drew hsz (by omega) (by omega) (VIs.keep (w := wr) (w' := wr.drew) (fun _ h => h) (fun _ _ _ => rfl) _ _ hxjH.out)).mono ?_
    rintro e w3 ⟨r3, rfl, hw3, hs3⟩
    have hr31 : 1 ≤ r3 := hw3.1
    have hr32 : r3 ≤ (most - r + 2) * 281474976710656 := hw3.2.1
    have hw4 : IntKind.i64.wrap (r + (nm.length : Int) + r3) = r + (nm.length : Int) + r3 := IntWalk.i64_in _ (by omega)
    have hw3H := Lib.hid hw3
    have hk3 : ∀ (p : Addr) v, wr.cell? p = some v → w3.cell? p = some v := fun p v hv => (World.cell?_of_block (a := p) ((hs3.keep p.block (World.block_lt_of_cell? wr p hv) (by simp)).2)).trans hv
    have a0 := hk3 _ _ v4
    have a1 := hk3 _ _ q0
    have a2 := hk3 _ _ q1
    have a3 := hk3 _ _ q2
    have a4 := hk3 _ _ q3
    have a5 := hk3 _ _ q4
    have a6 := hk3 _ _ q5
    have a7 := hk3 _ _ q6
    have hs3H := Lib.hid (show Step [] id id wr w3 from (Step.drew).tail hs3)
    clear hs3 hk3 hw3
    go_wp2_with fail
    refine hK.out _ _ ?_ (fun hHeld => ?_)
    ·exact ⟨a0, a1, a2, a3, a4, a5, a6, a7⟩
    clear hK K
    refine tkH 19 ?_ rfl (by kernel_rfl) (fun _ _ _ h => h) ?_ hHeld ?_
    rotate_left
    ·intro w' hSw; (try dsimp only at hSw); go_simp
     all_goals (with_reducible rfl)
    simp only [zP, zO, zA, zB, zC, zD, zE, zF]
    refine tkH 20 ?_ rfl (by kernel_rfl) (fun _ _ _ h => h) ?_ hHeld ?_
    rotate_left
    ·intro w' hSw; (try dsimp only at hSw); go_simp
     all_goals (with_reducible rfl)
    simp only [zP, zO, zA, zB, zC, zD, zE, zF]
    refine wpAnyH_done (by kernel_rfl) ?_ _
    clear a0 a1 a2 a3 a4 a5 a6 a7 q0 q1 q2 q3 q4 q5 q6 v4 v5 hHeld
    go_wp2_with fail
    go_roundw
    case rel =>
     refine ⟨_, j + 1, rfl, by go_num, by omega, ?_, hstH.out.tail hs3H.out⟩
     have h1 := hwokH.out
     have h2 := hw3H.out
     rw [htk.out]
     exact ⟨by omega, by omega, fun h => by have e1 := h1.2.2 hrm; have e2 := h2.2.2 (by omega); push_cast; omega⟩
    case measure => simp [intOf]; omega
   ·have hst0 := Lib.hid hst
    have hWf0 : WOk most r (BASE + weightFs x.f) := ⟨hwok.1, hwok.2.1, fun h => absurd h hrm⟩
    obtain ⟨W3, hW3⟩ : ∃ W3, W3 = wr := ⟨_, rfl⟩
    have hWf0 := Lib.hid hWf0
    go_wp2_with fail
    rw [← hW3] at hst0 ⊢
    clear hst hW3 v4 v5 hwok
    go_loopw [5, 7] (fun nv i wr => ∃ (r : Int) (j : Nat), nv = .int .i64 r ∧ i = .int .i64 j ∧ j ≤ ln ∧ WOk most r (BASE + weightFs x.f + weightLs (x.l.take j)) ∧ Step [] id id W1 wr) (fun _ i _ => ln - (intOf i).toNat)
    case atStart => exact ⟨_, 0, rfl, rfl, Nat.zero_le _, by simpa [weightLs] using hWf0.out, hst0.out⟩
    case round =>
     obtain ⟨r, j, rfl, rfl, hj, hwok, hst⟩ := hrel
     have hVr := hst.at hV.out (by simp)
     have v4 := cell_blk hVr (i := 4) rfl
     have v5 := cell_blk hVr (i := 5) rfl
     clear hVr
     by_cases hjl : j < ln
     ·have hjl1 : (j : Int) < (ln : Int) := by omega
      have hj0 : (0 : Int) ≤ (j : Int) := by omega
      by_cases hrm : r ≤ most
      ·have htk := Lib.hid (weightLs_take x.l j (by rw [← hlnH.out]; exact hjl))
       obtain ⟨Y, hY⟩ : ∃ Y, Y = weightV (x.l[j]'(by rw [← hlnH.out]; exact hjl)) := ⟨_, rfl⟩
       rw [← hY] at htk
       have hYH := Lib.hid hY
       clear hY
       have hlw := LIs.keep (P2 := P) (fun _ h => h) (fun k hP hk => (((hs1H.out.tail hst).keep k hk (by simp)).2)) x.l la 0 hlH.out
       obtain ⟨b, o, cs, hae, hPb, hrng, hxj⟩ := hlw.get (j := j) (by rw [← hlnH.out]; exact hjl)
       subst hae
       obtain ⟨s1, ba2, bn2, bc2, fa2, fn2, fc2, la2, ln2, lc2, hcs, -⟩ := hxj.six
       have hsz := hlsH.out j (by rw [← hlnH.out]; exact hjl)
       obtain ⟨y, hy⟩ : ∃ y, y = (x.l[j]'(by rw [← hlnH.out]; exact hjl)) := ⟨_, rfl⟩
       have hYy := Lib.hid (show Y = weightV y by rw [hYH.out, hy])
       rw [← hy] at hxj hcs hsz
       clear hy
       obtain ⟨n1, hn1⟩ : ∃ k, k = y.num := ⟨_, rfl⟩
       obtain ⟨k1, hk1⟩ : ∃ k, k = y.kind := ⟨_, rfl⟩
       rw [← hk1, ← hn1] at hcs
       rw [hcs, Nat.zero_add] at hrng
       subst hcs
       have q0 := hrng 0 _ rfl
       have q1 := hrng 1 _ rfl
       have q2 := hrng 2 _ rfl
       have q3 := hrng 3 _ rfl
       have q4 := hrng 4 _ rfl
       have q5 := hrng 5 _ rfl
       rw [Nat.add_zero] at q0
       have hxjH := Lib.hid hxj
       clear hrng hxj hn1 hk1 hlw
       have hstH := Lib.hid hst
       have hwokH := Lib.hid hwok
       have hwrap : IntKind.i64.wrap ((j : Int) + 1) = (j : Int) + 1 := IntWalk.i64_in _ (by omega)
       have hr1 : 1 ≤ r := hwok.1
       have hw2 : wrap64 (most - r) = most - r := wrap_id (by omega) (by omega)
       clear hst hwok
       go_wp2_with (go_at_call 19; refine (ih P y _ _ _ hsz (by omega) (by omega) hxjH.out).mono ?_; rintro e w3 ⟨r3, rfl, hw3, hs3⟩; have hr31 : 1 ≤ r3 := hw3.1; have hr32 : r3 ≤ (most - r + 2) * 281474976710656 := hw3.2.1; have hw4 : wrap64 (r + r3) = r + r3 := wrap_id (by omega) (by omega); have hs3H := Lib.hid hs3; have hw3H := Lib.hid hw3; clear hs3 hw3)
       go_roundw
       case rel =>
        refine ⟨_, j + 1, rfl, by go_num, by omega, ?_, hstH.out.tail hs3H.out⟩
        have h1 := hwokH.out
        have h2 := hw3H.out
        rw [htk.out]
        exact ⟨by omega, by omega, fun h => by have e1 := h1.2.2 hrm; have e2 := h2.2.2 (by omega); have e3 := hYy.out; push_cast; omega⟩
       case measure => simp [intOf]; omega
      ·have hstH := Lib.hid hst
       have hrd := Lib.hid (decide_eq_false hrm)
       have hres := Lib.hid (show WOk most r (weightV x) from ⟨hwok.1, hwok.2.1, fun h => absurd h hrm⟩)
       clear hst hwok
       go_wp2_with fail
       go_ret
       exact ⟨_, rfl, hres.out, hs1H.out.tail hstH.out⟩
     ·have hjl1 : ¬ (j : Int) < (ln : Int) := by omega
      have hstH := Lib.hid hst
      have hres := Lib.hid (show WOk most r (weightV x) by
       rw [List.take_of_length_le (by rw [← hlnH.out]; omega)] at hwok
       rw [weightV_eq, ← hBASE.out]; exact hwok)
      clear hst hwok
      go_wp2_with fail
      go_ret
      exact ⟨_, rfl, hres.out, hs1H.out.tail hstH.out⟩
  ·have hjl1 : ¬ (j : Int) < (fn : Int) := by omega
   have hst0 := Lib.hid hst
   have hWf0 : WOk most r (BASE + weightFs x.f) := by rw [List.take_of_length_le (by rw [← hfnH.out]; omega)] at hwok; exact hwok
   obtain ⟨W3, hW3⟩ : ∃ W3, W3 = wr := ⟨_, rfl⟩
   have hWf0 := Lib.hid hWf0
   go_wp2_with fail
   rw [← hW3] at hst0 ⊢
   clear hst hW3 v4 v5 hwok
   go_loopw [5, 7] (fun nv i wr => ∃ (r : Int) (j : Nat), nv = .int .i64 r ∧ i = .int .i64 j ∧ j ≤ ln ∧ WOk most r (BASE + weightFs x.f + weightLs (x.l.take j)) ∧ Step [] id id W1 wr) (fun _ i _ => ln - (intOf i).toNat)
   case atStart => exact ⟨_, 0, rfl, rfl, Nat.zero_le _, by simpa [weightLs] using hWf0.out, hst0.out⟩
   case round =>
    obtain ⟨r, j, rfl, rfl, hj, hwok, hst⟩ := hrel
    have hVr := hst.at hV.out (by simp)
    have v4 := cell_blk hVr (i := 4) rfl
    have v5 := cell_blk hVr (i := 5) rfl
    clear hVr
    by_cases hjl : j < ln
    ·have hjl1 : (j : Int) < (ln : Int) := by omega
     have hj0 : (0 : Int) ≤ (j : Int) := by omega
     by_cases hrm : r ≤ most
     ·have htk := Lib.hid (weightLs_take x.l j (by rw [← hlnH.out]; exact hjl))
      obtain ⟨Y, hY⟩ : ∃ Y, Y = weightV (x.l[j]'(by rw [← hlnH.out]; exact hjl)) := ⟨_, rfl⟩
      rw [← hY] at htk
      have hYH := Lib.hid hY
      clear hY
      have hlw := LIs.keep (P2 := P) (fun _ h => h) (fun k hP hk => (((hs1H.out.tail hst).keep k hk (by simp)).2)) x.l la 0 hlH.out
      obtain ⟨b, o, cs, hae, hPb, hrng, hxj⟩ := hlw.get (j := j) (by rw [← hlnH.out]; exact hjl)
      subst hae
      obtain ⟨s1, ba2, bn2, bc2, fa2, fn2, fc2, la2, ln2, lc2, hcs, -⟩ := hxj.six
      have hsz := hlsH.out j (by rw [← hlnH.out]; exact hjl)
      obtain ⟨y, hy⟩ : ∃ y, y = (x.l[j]'(by rw [← hlnH.out]; exact hjl)) := ⟨_, rfl⟩
      have hYy := Lib.hid (show Y = weightV y by rw [hYH.out, hy])
      rw [← hy] at hxj hcs hsz
      clear hy
      obtain ⟨n1, hn1⟩ : ∃ k, k = y.num := ⟨_, rfl⟩
      obtain ⟨k1, hk1⟩ : ∃ k, k = y.kind := ⟨_, rfl⟩
      rw [← hk1, ← hn1] at hcs
      rw [hcs, Nat.zero_add] at hrng
      subst hcs
      have q0 := hrng 0 _ rfl
      have q1 := hrng 1 _ rfl
      have q2 := hrng 2 _ rfl
      have q3 := hrng 3 _ rfl
      have q4 := hrng 4 _ rfl
      have q5 := hrng 5 _ rfl
      rw [Nat.add_zero] at q0
      have hxjH := Lib.hid hxj
      clear hrng hxj hn1 hk1 hlw
      have hstH := Lib.hid hst
      have hwokH := Lib.hid hwok
      have hwrap : IntKind.i64.wrap ((j : Int) + 1) = (j : Int) + 1 := IntWalk.i64_in _ (by omega)
      have hr1 : 1 ≤ r := hwok.1
      have hw2 : wrap64 (most - r) = most - r := wrap_id (by omega) (by omega)
      clear hst hwok
      go_wp2_with (go_at_call 19; refine (ih P y _ _ _ hsz (by omega) (by omega) hxjH.out).mono ?_; rintro e w3 ⟨r3, rfl, hw3, hs3⟩; have hr31 : 1 ≤ r3 := hw3.1; have hr32 : r3 ≤ (most - r + 2) * 281474976710656 := hw3.2.1; have hw4 : wrap64 (r + r3) = r + r3 := wrap_id (by omega) (by omega); have hs3H := Lib.hid hs3; have hw3H := Lib.hid hw3; clear hs3 hw3)
      go_roundw
      case rel =>
       refine ⟨_, j + 1, rfl, by go_num, by omega, ?_, hstH.out.tail hs3H.out⟩
       have h1 := hwokH.out
       have h2 := hw3H.out
       rw [htk.out]
       exact ⟨by omega, by omega, fun h => by have e1 := h1.2.2 hrm; have e2 := h2.2.2 (by omega); have e3 := hYy.out; push_cast; omega⟩
      case measure => simp [intOf]; omega
     ·have hstH := Lib.hid hst
      have hrd := Lib.hid (decide_eq_false hrm)
      have hres := Lib.hid (show WOk most r (weightV x) from ⟨hwok.1, hwok.2.1, fun h => absurd h hrm⟩)
      clear hst hwok
      go_wp2_with fail
      go_ret
      exact ⟨_, rfl, hres.out, hs1H.out.tail hstH.out⟩
    ·have hjl1 : ¬ (j : Int) < (ln : Int) := by omega
     have hstH := Lib.hid hst
     have hres := Lib.hid (show WOk most r (weightV x) by
      rw [List.take_of_length_le (by rw [← hlnH.out]; omega)] at hwok
      rw [weightV_eq, ← hBASE.out]; exact hwok)
     clear hst hwok
     go_wp2_with fail
     go_ret
     exact ⟨_, rfl, hres.out, hs1H.out.tail hstH.out⟩
set_option maxRecDepth 100000 in
set_option maxHeartbeats 4000000 in
theorem shallow_step (N : Nat) (ih : ShallowC N) : ShallowC (N + 1) := by
 intro P x cs most w hN hx
 obtain ⟨bv, fa, fc, la, lc, hcs, hb, ⟨hfc, hlc, hfn, hln⟩, -, ⟨hs2, hb2, hf2, hl2⟩, hf, hl⟩ := hx.cells
 obtain ⟨ba, bc, rfl⟩ := hb.shape
 have hfs : ∀ j (h : j < x.f.length), SizeOf.sizeOf x.f[j].2 < N := fun j h => by cases x; exact Nat.lt_of_lt_of_le (f_size h) (Nat.le_of_lt_succ hN)
 have hls : ∀ j (h : j < x.l.length), SizeOf.sizeOf x.l[j] < N := fun j h => by cases x; exact Nat.lt_of_lt_of_le (l_size h) (Nat.le_of_lt_succ hN)
 have hfH := Lib.hid hf
 have hlH := Lib.hid hl
 have hfsH := Lib.hid hfs
 have hlsH := Lib.hid hls
 obtain ⟨n0, hn0⟩ : ∃ k, k = x.num := ⟨_, rfl⟩
 obtain ⟨k0, hk0⟩ : ∃ k, k = x.kind := ⟨_, rfl⟩
 obtain ⟨s0, hs0⟩ : ∃ k, k = strOf x.s := ⟨_, rfl⟩
 obtain ⟨bn, hbn⟩ : ∃ k, k = x.b.length := ⟨_, rfl⟩
 obtain ⟨ln, hlnn⟩ : ∃ k, k = x.l.length := ⟨_, rfl⟩
 obtain ⟨fn, hfnn⟩ : ∃ k, k = x.f.length := ⟨_, rfl⟩
 rw [← hk0, ← hn0, ← hs0, ← hbn, ← hlnn, ← hfnn] at hcs
 rw [← hlnn] at hl2
 rw [← hfnn] at hf2
 subst hcs
 obtain ⟨W1, hW1⟩ : ∃ W1, W1 = w.alloc (.cells #[.int .i64 k0, .int .i64 n0, .string s0, .slice ba bn bc, .slice fa fn fc, .slice la ln lc] 35) := ⟨_, rfl⟩
 have hs1 : Step [] id id w W1 := by rw [hW1]; exact Step.alloc _
 have hV := Lib.hid (show W1.heap[w.heap.size]? = some (.cells #[.int .i64 k0, .int .i64 n0, .string s0, .slice ba bn bc, .slice fa fn fc, .slice la ln lc] 35 (0, 0)) by rw [hW1]; exact heap_alloc_new w _)
 have hs1H := Lib.hid hs1
 have hlnH := Lib.hid hlnn
 have hfnH := Lib.hid hfnn
 have hW1H := Lib.hid hW1
 have hs0e := Lib.hid hs0
 have hbne := Lib.hid hbn
 clear hx hn0 hk0 hs0 hbn hlnn hfnn hs1 hW1 hf hl hfs hls hb hfc hlc hfn hln hs2 hb2
 go_enter Tryz.func37, Tryz.ntmps37
 go_wp2_with fail
 rw [← hW1H.out]
 go_loopw [5] (fun i wr => ∃ (j : Nat), i = .int .i64 j ∧ j ≤ fn ∧ Step [] id id W1 wr) (fun i _ => fn - (intOf i).toNat)
 case atStart => exact ⟨0, rfl, Nat.zero_le _, Step.refl _ _ _⟩
 case round =>
  obtain ⟨j, rfl, hj, hst⟩ := hrel
  have hVr := hst.at hV.out (by simp)
  have v4 := cell_blk hVr (i := 4) rfl
  have v5 := cell_blk hVr (i := 5) rfl
  clear hVr
  by_cases hjl : j < fn
  ·have hjl1 : (j : Int) < (fn : Int) := by omega
   have hj0 : (0 : Int) ≤ (j : Int) := by omega
   by_cases hm : most = 0
   ·have hstH := Lib.hid hst
    clear hst
    subst hm
    go_wp2_with fail
    go_ret
    exact ⟨_, rfl, hs1H.out.tail hstH.out⟩
   ·have hfw := FIs.keep (P2 := P) (fun _ h => h) (fun k hP hk => (((hs1H.out.tail hst).keep k hk (by simp)).2)) x.f fa 0 hfH.out
    obtain ⟨b, o, cs, hae, hPb, hnl, hrng, hxj⟩ := hfw.get (j := j) (by rw [← hfnH.out]; exact hjl)
    subst hae
    obtain ⟨s1, ba2, bn2, bc2, fa2, fn2, fc2, la2, ln2, lc2, hcs, -⟩ := hxj.six
    have hsz := hfsH.out j (by rw [← hfnH.out]; exact hjl)
    generalize (x.f[j]'(by rw [← hfnH.out]; exact hjl)) = y at *
    obtain ⟨nm, y⟩ := y
    simp only at hrng hxj hcs hsz hnl
    obtain ⟨n1, hn1⟩ : ∃ k, k = y.num := ⟨_, rfl⟩
    obtain ⟨k1, hk1⟩ : ∃ k, k = y.kind := ⟨_, rfl⟩
    obtain ⟨nms, hnms⟩ : ∃ k, k = strOf nm := ⟨_, rfl⟩
    rw [← hk1, ← hn1] at hcs
    rw [hcs, Nat.zero_add, ← hnms] at hrng
    subst hcs
    have q0 := hrng 0 _ rfl
    have q1 := hrng 1 _ rfl
    have q2 := hrng 2 _ rfl
    have q3 := hrng 3 _ rfl
    have q4 := hrng 4 _ rfl
    have q5 := hrng 5 _ rfl
    have q6 := hrng 6 _ rfl
    rw [Nat.add_zero] at q0
    have hxjH := Lib.hid hxj
    clear hrng hxj hn1 hk1 hnms hfw
    have hstH := Lib.hid hst
    have hwrap : IntKind.i64.wrap ((j : Int) + 1) = (j : Int) + 1 := IntWalk.i64_in _ (by omega)
    clear hst
    have hcall := ih P y _ (wrap64 (most - 1)) wr hsz hxjH.out
    have hcallH := Lib.hid hcall
    clear hcall
    go_wp2_with fail
    refine hcallH.out.mono ?_
    rintro e w3 ⟨r3, rfl, hs3⟩
    have hs3H := Lib.hid hs3
    clear hs3
    cases r3
    ·go_wp2_with fail
     go_ret
     exact ⟨_, rfl, (hs1H.out.tail hstH.out).tail hs3H.out⟩
    ·go_wp2_with fail
     go_roundw
     case rel => exact ⟨j + 1, by go_num, by omega, hstH.out.tail hs3H.out⟩
     case measure => simp [intOf]; omega
  ·have hjl1 : ¬ (j : Int) < (fn : Int) := by omega
   have hst0 := Lib.hid hst
   obtain ⟨W3, hW3⟩ : ∃ W3, W3 = wr := ⟨_, rfl⟩
   go_wp2_with fail
   rw [← hW3] at hst0 ⊢
   clear hst hW3 v4 v5
   go_loopw [6] (fun i wr => ∃ (j : Nat), i = .int .i64 j ∧ j ≤ ln ∧ Step [] id id W1 wr) (fun i _ => ln - (intOf i).toNat)
   case atStart => exact ⟨0, rfl, Nat.zero_le _, hst0.out⟩
   case round =>
    obtain ⟨j, rfl, hj, hst⟩ := hrel
    have hVr := hst.at hV.out (by simp)
    have v4 := cell_blk hVr (i := 4) rfl
    have v5 := cell_blk hVr (i := 5) rfl
    clear hVr
    by_cases hjl : j < ln
    ·have hjl1 : (j : Int) < (ln : Int) := by omega
     have hj0 : (0 : Int) ≤ (j : Int) := by omega
     by_cases hm : most = 0
     ·have hstH := Lib.hid hst
      clear hst
      subst hm
      go_wp2_with fail
      go_ret
      exact ⟨_, rfl, hs1H.out.tail hstH.out⟩
     ·have hlw := LIs.keep (P2 := P) (fun _ h => h) (fun k hP hk => (((hs1H.out.tail hst).keep k hk (by simp)).2)) x.l la 0 hlH.out
      obtain ⟨b, o, cs, hae, hPb, hrng, hxj⟩ := hlw.get (j := j) (by rw [← hlnH.out]; exact hjl)
      subst hae
      obtain ⟨s1, ba2, bn2, bc2, fa2, fn2, fc2, la2, ln2, lc2, hcs, -⟩ := hxj.six
      have hsz := hlsH.out j (by rw [← hlnH.out]; exact hjl)
      generalize (x.l[j]'(by rw [← hlnH.out]; exact hjl)) = y at *
      obtain ⟨n1, hn1⟩ : ∃ k, k = y.num := ⟨_, rfl⟩
      obtain ⟨k1, hk1⟩ : ∃ k, k = y.kind := ⟨_, rfl⟩
      rw [← hk1, ← hn1] at hcs
      rw [hcs, Nat.zero_add] at hrng
      subst hcs
      have q0 := hrng 0 _ rfl
      have q1 := hrng 1 _ rfl
      have q2 := hrng 2 _ rfl
      have q3 := hrng 3 _ rfl
      have q4 := hrng 4 _ rfl
      have q5 := hrng 5 _ rfl
      rw [Nat.add_zero] at q0
      have hxjH := Lib.hid hxj
      clear hrng hxj hn1 hk1 hlw
      have hstH := Lib.hid hst
      have hwrap : IntKind.i64.wrap ((j : Int) + 1) = (j : Int) + 1 := IntWalk.i64_in _ (by omega)
      clear hst
      have hcall := ih P y _ (wrap64 (most - 1)) wr hsz hxjH.out
      have hcallH := Lib.hid hcall
      clear hcall
      go_wp2_with fail
      refine hcallH.out.mono ?_
      rintro e w3 ⟨r3, rfl, hs3⟩
      have hs3H := Lib.hid hs3
      clear hs3
      cases r3
      ·go_wp2_with fail
       go_ret
       exact ⟨_, rfl, (hs1H.out.tail hstH.out).tail hs3H.out⟩
      ·go_wp2_with fail
       go_roundw
       case rel => exact ⟨j + 1, by go_num, by omega, hstH.out.tail hs3H.out⟩
       case measure => simp [intOf]; omega
    ·have hjl1 : ¬ (j : Int) < (ln : Int) := by omega
     have hstH := Lib.hid hst
     clear hst
     go_wp2_with fail
     go_ret
     exact ⟨_, rfl, hs1H.out.tail hstH.out⟩
theorem weight_all : ∀ N, WeightC N
 | 0 => fun _ x _ _ _ hN => absurd hN (Nat.not_lt_zero _)
 | N + 1 => weight_step N (weight_all N)
theorem shallow_all : ∀ N, ShallowC N
 | 0 => fun _ x _ _ _ hN => absurd hN (Nat.not_lt_zero _)
 | N + 1 => shallow_step N (shallow_all N)
set_option maxRecDepth 100000 in
set_option maxHeartbeats 4000000 in
theorem bs_small {P : Nat → Prop} {x : Val} {cs : List Value} {w : World} (hx : VIs P w x cs) : Calls Tryz.prog 18 #[.agg cs.toArray] w (SBool x w) := by
 obtain ⟨s0, ba, bn, bc, fa, fn, fc, la, ln, lc, hcs, -⟩ := hx.six
 obtain ⟨n0, hn0⟩ : ∃ k, k = x.num := ⟨_, rfl⟩
 obtain ⟨k0, hk0⟩ : ∃ k, k = x.kind := ⟨_, rfl⟩
 rw [← hk0, ← hn0] at hcs
 subst hcs
 obtain ⟨W1, hW1⟩ : ∃ W1, W1 = w.alloc (.cells #[.int .i64 k0, .int .i64 n0, .string s0, .slice ba bn bc, .slice fa fn fc, .slice la ln lc] 35) := ⟨_, rfl⟩
 have hV := Lib.hid (show W1.heap[w.heap.size]? = some (.cells #[.int .i64 k0, .int .i64 n0, .string s0, .slice ba bn bc, .slice fa fn fc, .slice la ln lc] 35 (0, 0)) by rw [hW1]; exact heap_alloc_new w _)
 have hs1 : Step [] id id w W1 := by rw [hW1]; exact Step.alloc _
 have hx1 := Lib.hid (hx.keep (P2 := P) (fun _ h => h) (fun k hP hk => (hs1.keep k hk (by simp)).2))
 have hs1H := Lib.hid hs1
 have hW1H := Lib.hid hW1
 clear hx hn0 hk0 hs1 hW1
 go_enter Tryz.func18, Tryz.ntmps18
 go_wp2_with fail
 rw [← hW1H.out]
 refine (weight_all (SizeOf.sizeOf x + 1) P x _ 3000 W1 (Nat.lt_succ_self _) (by omega) (by omega) hx1.out).mono ?_
 rintro e w2 ⟨r, rfl, hwk, hs2⟩
 have hwkH := Lib.hid hwk
 clear hwk
 have hs2H := Lib.hid hs2
 by_cases hr : r ≤ 3000
 ·have hV2 := hs2.at hV.out (by simp)
  have v0 := cell_blk hV2 (i := 0) rfl
  have v1 := cell_blk hV2 (i := 1) rfl
  have v2 := cell_blk hV2 (i := 2) rfl
  have v3 := cell_blk hV2 (i := 3) rfl
  have v4 := cell_blk hV2 (i := 4) rfl
  have v5 := cell_blk hV2 (i := 5) rfl
  clear hs2 hV2
  go_wp2_with (go_at_call 37; refine (shallow_all (SizeOf.sizeOf x + 1) P x _ 60 w2 (Nat.lt_succ_self _) (hx1.out.keep (fun _ h => h) (fun k hP hk => (hs2H.out.keep k hk (by simp)).2))).mono ?_; rintro e w3 ⟨r3, rfl, hs3⟩; have hs3H := Lib.hid hs3; clear hs3)
  go_ret
  exact ⟨_, rfl, fun _ => by have := hwkH.out.2.2 hr; omega, (hs1H.out.tail hs2H.out).tail hs3H.out⟩
 ·have hrd := Lib.hid (decide_eq_false hr)
  clear hs2
  go_wp2_with fail
  go_ret
  exact ⟨false, rfl, (fun h => by cases h), hs1H.out.tail hs2H.out⟩
mutual
theorem enc_lenV : ∀ v : Val, weightV v ≤ 9000 → (encV v).length + 6 ≤ 14 * weightV v
 | .mk k n s b f l, h => by
  rw [weightV] at h ⊢
  have h1 := enc_lenFs f (by omega)
  have h2 := enc_lenLs l 0 (by omega) (by have := weightLs_len l; omega)
  simp only [encV]
  repeat' split
  all_goals try simp only [layI_length, wrapDoc_length, List.length_append, List.length_cons, List.length_nil]
  all_goals omega
theorem enc_lenFs : ∀ f : List (Bs × Val), weightFs f ≤ 9000 → (encFs f).length ≤ 14 * weightFs f
 | [], _ => by simp [encFs]
 | (nm, v) :: r, h => by
  rw [weightFs] at h ⊢
  have h1 := enc_lenV v (by omega)
  have h2 := enc_lenFs r (by omega)
  rw [encFs]
  simp only [List.length_append, List.length_cons]
  omega
theorem enc_lenLs : ∀ (l : List Val) (i : Nat), weightLs l ≤ 9000 → i + l.length ≤ 9999 → (encLs i l).length ≤ 14 * weightLs l
 | [], _, _, _ => by simp [encLs]
 | v :: r, i, h, hi => by
  rw [weightLs] at h ⊢
  simp only [List.length_cons] at hi
  have h1 := enc_lenV v (by omega)
  have h2 := enc_lenLs r (i + 1) (by omega) (by omega)
  have h3 := itoa_length 3 i (by omega)
  rw [encLs]
  simp only [List.length_append, List.length_cons]
  omega
end
theorem enc_short {v : Val} (hk : okDoc v = true) (h : weightV v ≤ 3000) : (wrapDoc (encFs v.f)).length ≤ 42000 := by
 have h1 := enc_lenV v (by omega)
 cases v with
 | mk k n s b f l =>
  unfold okDoc at hk
  simp only [Val.kind, Bool.and_eq_true] at hk
  obtain ⟨⟨⟨hk6, _⟩, _⟩, _⟩ := hk
  obtain rfl := of_decide_eq_true hk6
  have h2 : encV (.mk 6 n s b f l) = wrapDoc (encFs f) := by simp [encV]
  rw [h2] at h1
  simp only [Val.f]
  omega
end Go.Proofs.YtembpajlllnncaaGreatDoor
namespace Go.Proofs.YtembpajlllnncaaGreatDoor
open Go.RowKit

theorem Step.cell {w w' : World} {p : Addr} {v : Value} (hs : Step [] id id w w') (h : w.cell? p = some v) : w'.cell? p = some v :=
 (World.cell?_of_block (a := p) ((hs.keep p.block (World.block_lt_of_cell? w _ h) (by simp)).2)).trans h
/-- A value in a slice, cell by cell. -/
theorem elem_at {P : Nat → Prop} {w : World} {l : List Val} {b o j : Nat} (h : LIs P w l (some ⟨b, o, none⟩) 0) (hj : j < l.length) : ∃ s ba bn bc fa fn fc la ln lc,
  VIs P w l[j] [.int .i64 l[j].kind, .int .i64 l[j].num, .string s, .slice ba bn bc, .slice fa fn fc, .slice la ln lc] ∧ P b ∧
  w.cell? ⟨b, o + j * 6, none⟩ = some (.int .i64 l[j].kind) ∧ w.cell? ⟨b, o + j * 6 + 1, none⟩ = some (.int .i64 l[j].num) ∧ w.cell? ⟨b, o + j * 6 + 2, none⟩ = some (.string s) ∧ w.cell? ⟨b, o + j * 6 + 3, none⟩ = some (.slice ba bn bc) ∧ w.cell? ⟨b, o + j * 6 + 4, none⟩ = some (.slice fa fn fc) ∧ w.cell? ⟨b, o + j * 6 + 5, none⟩ = some (.slice la ln lc) := by
 obtain ⟨b', o', cs, e, hP, hr, hx⟩ := h.get hj
 injection e with e
 injection e with e1 e2
 subst e1 e2
 obtain ⟨s, ba, bn, bc, fa, fn, fc, la, ln, lc, hcs, -⟩ := hx.six
 rw [hcs] at hr hx
 rw [Nat.zero_add] at hr
 exact ⟨s, ba, bn, bc, fa, fn, fc, la, ln, lc, hx, hP, by have := hr 0 _ rfl; simpa using this, hr 1 _ rfl, hr 2 _ rfl, hr 3 _ rfl, hr 4 _ rfl, hr 5 _ rfl⟩
def FewP (l : List Val) (w : World) (e : Ending) (w' : World) : Prop := ∃ r : Bool, e = .returned (.bool r) ∧ (r = true → l.length ≤ 30 ∧ ∀ (j : Nat) (hj : j < l.length), weightV l[j] ≤ 3000) ∧ Step [] id id w w'
set_option maxRecDepth 100000 in
set_option maxHeartbeats 4000000 in
theorem law_few {P : Nat → Prop} {w : World} {l : List Val} {la : Option Addr} {n lc : Nat} (hl : LIs P w l la 0) (hn : n = l.length) (hn2 : n ≤ 140737488351232) : Calls Tryz.prog 5 #[.slice la n lc] w (FewP l w) := by
 have hlH := Lib.hid (LIs.below _ _ _ hl)
 have hnH := Lib.hid hn
 clear hl hn
 go_enter Tryz.func5, Tryz.ntmps5
 go_wp2_with fail
 go_loopw [3, 4] (fun nv iv wr => ∃ (z : Int) (j : Nat), nv = .int .i64 z ∧ iv = .int .i64 j ∧ j ≤ n ∧ Step [] id id w wr ∧ ∀ (q : Nat) (hq : q < l.length), q < j → weightV l[q] ≤ 3000) (fun _ iv _ => n - (intOf iv).toNat)
 case atStart => exact ⟨0, 0, rfl, rfl, Nat.zero_le _, Step.refl _ _ _, fun q _ h => absurd h (Nat.not_lt_zero _)⟩
 case round =>
  obtain ⟨z, j, rfl, rfl, hj, hst, hall⟩ := hrel
  have hallH := Lib.hid hall
  have hstH := Lib.hid hst
  clear hall
  by_cases hjn : j < n
  ·have hjn1 : (j : Int) < (n : Int) := by omega
   have hjl : j < l.length := by rw [← hnH.out]; exact hjn
   have hlr : LIs (fun _ => True) wr l la 0 := LIs.keep (fun _ _ => trivial) (fun k hk hl => (hst.keep k hl (by simp)).2) _ _ _ hlH.out
   obtain ⟨b, o, cs, hla, -, -, -⟩ := hlr.get hjl
   subst hla
   obtain ⟨s, ba, bn, bc, fa, fn, fc, la1, ln1, lc1, hxj, -, q0, q1, q2, q3, q4, q5⟩ := elem_at hlr hjl
   have hgr := World.block_lt_of_cell? _ _ q0
   obtain ⟨k1, hk1⟩ : ∃ k, k = l[j].kind := ⟨_, rfl⟩
   obtain ⟨n1, hn1⟩ : ∃ k, k = l[j].num := ⟨_, rfl⟩
   rw [← hk1] at q0
   rw [← hn1] at q1
   have hxj2 := hxj
   rw [← hk1, ← hn1] at hxj2
   have hsm := Lib.hid (bs_small hxj2)
   have hwA := Lib.hid (fun (W : World) (hW : Step [] id id wr W) => weight_all (SizeOf.sizeOf l[j] + 1) (fun k => k < W.heap.size) l[j] _ 3000 W (Nat.lt_succ_self _) (by omega) (by omega) (hxj2.low.onto hW))
   have hcells := Lib.hid (fun (W : World) (hW : Step [] id id wr W) => And.intro (hW.cell q0) (And.intro (hW.cell q1) (And.intro (hW.cell q2) (And.intro (hW.cell q3) (And.intro (hW.cell q4) (hW.cell q5))))))
   have hwrap : IntKind.i64.wrap ((j : Int) + 1) = (j : Int) + 1 := IntWalk.i64_in _ (by omega)
   clear hst hlr hxj hxj2 hk1 hn1
   go_wp2_with fail
   refine hsm.out.mono ?_
   rintro e w3 ⟨r, rfl, hr, hs3⟩
   have hrH := Lib.hid hr
   have hs3H := Lib.hid hs3
   obtain ⟨p0, p1, p2, p3, p4, p5⟩ := hcells.out w3 hs3
   have hgr3 : b < w3.heap.size := Nat.lt_of_lt_of_le hgr hs3.size
   clear hr hs3 q0 q1 q2 q3 q4 q5
   cases r
   ·go_wp2_with fail
    go_ret
    exact ⟨false, rfl, (fun h => by cases h), hstH.out.tail hs3H.out⟩
   ·have hr1 := Lib.hid (hrH.out rfl)
    clear hrH
    go_wp2_with fail
    refine (hwA.out w3 hs3H.out).mono ?_
    rintro e w4 ⟨r4, rfl, hr4, hs4⟩
    have hs4H := Lib.hid hs4
    clear hr4 hs4 p0 p1 p2 p3 p4 p5
    go_wp2_with fail
    go_roundw
    case rel =>
     refine ⟨_, j + 1, rfl, by go_num, by omega, (hstH.out.tail hs3H.out).tail hs4H.out, fun q hq hqj => ?_⟩
     by_cases hqe : q = j
     ·subst hqe; exact hr1.out
     ·exact hallH.out q hq (by omega)
    case measure => simp [intOf]; omega
  ·have hjn1 : ¬ (j : Int) < (n : Int) := by omega
   obtain rfl : j = n := by omega
   clear hst
   by_cases h30 : (j : Int) ≤ 30
   ·by_cases hz : z ≤ 6000
    ·go_wp2_with fail
     go_ret
     exact ⟨true, by simp [hz], fun _ => ⟨by rw [← hnH.out]; omega, fun q hq => hallH.out q hq (by rw [hnH.out]; exact hq)⟩, hstH.out⟩
    ·go_wp2_with fail
     go_ret
     exact ⟨false, by simp [hz], (fun h => by cases h), hstH.out⟩
   ·go_wp2_with fail
    go_ret
    exact ⟨false, rfl, (fun h => by cases h), hstH.out⟩
end Go.Proofs.YtembpajlllnncaaGreatDoor
