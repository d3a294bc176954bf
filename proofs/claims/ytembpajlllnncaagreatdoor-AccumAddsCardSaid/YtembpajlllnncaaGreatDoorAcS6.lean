/- The weigher weighs fields. Panics caught. Size. -/
import Derived.Test.YtembpajlllnncaaGreatDoorAcS2
import Derived.Test.YtembpajlllnncaaGreatDoorAcS0
import Derived.Recover
import Derived.Defers
set_option linter.unusedVariables false
set_option linter.unusedSimpArgs false
namespace Go.Proofs.YtembpajlllnncaaGreatDoor
open Go.RowKit

set_option maxRecDepth 100000 in
set_option maxHeartbeats 4000000 in
theorem weigh_fields (fuel : Nat) (hV : ∀ g, fuel = g + 1 → WghV g) : WghF fuel := by
 intro P f fa fc R s deep w hfu hd hfc hfl hf hR hs ht hPR
 have hfH := Lib.hid hf
 have htH := Lib.hid ht
 have hRH := Lib.hid hR
 obtain ⟨OK, hOK⟩ : ∃ OK : Prop, OK = (deep ≤ 32 ∧ okFs deep [] f = true ∧ s + (wrapDoc (encFs f)).length ≤ 65536) := ⟨_, rfl⟩
 obtain ⟨M, hM⟩ : ∃ M, M = s + (wrapDoc (encFs f)).length := ⟨_, rfl⟩
 rw [← hOK, ← hM]
 rw [wrapDoc_length] at hOK hM
 have hOKH := Lib.hid hOK
 have hMH := Lib.hid hM
 clear hf ht hR hOK hM
 by_cases hdp : deep ≤ 32
 rotate_left
 ·have hno := Lib.hid (show ¬ OK by rw [hOKH.out]; exact fun h => hdp h.1)
  have hdi : ¬ (deep : Int) ≤ 32 := by omega
  have hdd := Lib.hid (decide_eq_false hdi)
  go_enter Tryz.func58, Tryz.ntmps58
  go_wp2_with (go_at_call 72; (try rw [hdd.out]); refine (must_bad 1 _).mono ?_; rintro e w' ⟨rfl, rfl⟩)
  exact ⟨rfl, Step.refl _ _ _, .inr ⟨hno.out, rfl, s, hRH.out⟩⟩
 have hdi : (deep : Int) ≤ 32 := by omega
 by_cases hs5 : s + 5 ≤ 65536
 rotate_left
 ·have hno := Lib.hid (show ¬ OK by rw [hOKH.out]; exact fun h => by have := h.2.2; omega)
  go_enter Tryz.func58, Tryz.ntmps58
  go_wp2_with (first | (go_at_call 72; refine (must_ok 1 _).mono ?_; rintro e w' ⟨rfl, rfl⟩) | (go_at_call 73; refine (add_bad (n := 5) hRH.out hs hs5 (by omega)).mono ?_; rintro e w2 ⟨rfl, rfl⟩))
  exact ⟨rfl, Step.refl _ _ _, .inr ⟨hno.out, rfl, s, hRH.out⟩⟩
 obtain ⟨g, hg⟩ : ∃ g, fuel = g + 1 := ⟨fuel - 1, by omega⟩
 have hVg := hV g hg
 have hVH := Lib.hid hVg
 clear hV hVg
 have hmm := @run_makeMap Tryz.prog
 go_enter Tryz.func58, Tryz.ntmps58
 go_wp2_with (first | (go_at_call 72; refine (must_ok 1 _).mono ?_; rintro e w' ⟨rfl, rfl⟩) | (go_at_call 73; refine (add_ok (n := 5) hRH.out hs hs5).mono ?_; rintro e w1 ⟨rfl, hr1, hs1⟩; have hr1H := Lib.hid hr1; have hs1H := Lib.hid hs1; clear hr1 hs1))
 have hbmlt : w.heap.size ≤ w1.heap.size := hs1H.out.size
 go_loopw [20] (fun i wr => ∃ (j : Nat) (es : Array MapEntry) (clock : Nat), i = .int .i64 j ∧ j ≤ f.length ∧ wr.heap[w1.heap.size]? = some (.map es clock) ∧ Names es.toList ((f.take j).map (·.1)) ∧ Wgh wr R (s + 5 + (encFs (f.take j)).length) ∧ s + 5 + (encFs (f.take j)).length ≤ 65536 ∧ Step [R] id id w wr ∧ okFs deep [] f = okFs deep ((f.take j).map (·.1)).reverse (f.drop j)) (fun i _ => f.length - (intOf i).toNat)
 case atStart =>
  refine ⟨0, #[], 0, rfl, Nat.zero_le _, heap_alloc_new w1 _, by simp [Names], ?_, ?_, ?_, by simp⟩
  ·simpa [encFs] using hr1H.out.keep (World.grownBy_alloc w1 _ none)
  ·simpa [encFs] using hs5
  ·exact hs1H.out.tail (Step.alloc _)
 case round =>
  obtain ⟨j, es, clock, rfl, hj, hmap, hnames, hwr, hsz, hst, hrest⟩ := hrel
  have hstH := Lib.hid hst
  have hwrH := Lib.hid hwr
  have hnamesH := Lib.hid hnames
  have hrestH := Lib.hid hrest
  have hmapH := Lib.hid hmap
  clear hst hwr hnames hrest
  by_cases hjl : j < f.length
  ·have hjl1 : (j : Int) < (f.length : Int) := by omega
   have hj0 : (0 : Int) ≤ (j : Int) := by omega
   have htr := htH.out.one hstH.out hPR
   have htrH := Lib.hid htr
   have hfw := FIs.keep (fun _ h => h) (fun k hP hk => htH.out.old hstH.out (fun k hk e => by rw [List.mem_singleton] at hk; rw [hk] at e; exact hPR e) k hP hk) f fa 0 hfH.out
   obtain ⟨b, o, cs, hae, hPb, hnl, hrng, hx⟩ := hfw.get hjl
   subst hae
   obtain ⟨s0, ba, bn, bc, fa2, fn, fc2, la2, ln, lc2, hcs, -⟩ := hx.six
   have hlenj : (encFs (f.take (j + 1))).length ≤ (encFs f).length := encFs_take_le f (j + 1)
   have htk := encFs_take f j hjl
   have hdrop : f.drop j = f[j] :: f.drop (j + 1) := List.drop_eq_getElem_cons hjl
   have htake : (f.take (j + 1)).map (·.1) = (f.take j).map (·.1) ++ [f[j].1] := by rw [List.take_succ_eq_append_getElem hjl, List.map_append]; rfl
   obtain ⟨nm, hnm⟩ : ∃ nm, nm = f[j].1 := ⟨_, rfl⟩
   obtain ⟨x, hxe⟩ : ∃ x, x = f[j].2 := ⟨_, rfl⟩
   rw [show f[j] = (nm, x) by rw [hnm, hxe]] at hdrop
   rw [← hnm] at hrng hnl htk htake
   rw [← hxe] at hx hcs htk
   obtain ⟨ns, hns⟩ : ∃ ns, ns = (f.take j).map (·.1) := ⟨_, rfl⟩
   rw [← hns] at htake hnamesH hrestH
   obtain ⟨n0, hn0⟩ : ∃ k, k = x.num := ⟨_, rfl⟩
   obtain ⟨k0, hk0⟩ : ∃ k, k = x.kind := ⟨_, rfl⟩
   obtain ⟨nms, hnms⟩ : ∃ k, k = strOf nm := ⟨_, rfl⟩
   have hnsz : nms.size = nm.length := by rw [hnms, strOf_size]
   rw [← hk0, ← hn0] at hcs
   rw [hcs, Nat.zero_add, ← hnms] at hrng
   subst hcs
   have q0 := hrng 0 _ rfl
   have q1 := hrng 1 _ rfl
   have q2 := hrng 2 _ rfl
   have q3 := hrng 3 _ rfl
   have q4 := hrng 4 _ rfl
   have q5 := hrng 5 _ rfl
   have q6 := hrng 6 _ rfl
   rw [Nat.add_zero] at q0
   have htl : (encFs (f.take j)).length + (nm.length + (encV x).length + 2) ≤ (encFs f).length := by
    rw [htk] at hlenj
    simp only [List.length_append, List.length_cons] at hlenj
    omega
   have hrest2 : okFs deep [] f = (nameOk nm && decide (nm ∉ ns) && okV deep x && okFs deep (nm :: ns.reverse) (f.drop (j + 1))) := by
    rw [hrestH.out, hdrop, okFs]
    simp only [List.mem_reverse]
   have hxH := Lib.hid hx
   have htkH := Lib.hid htk
   have htlH := Lib.hid htl
   have hnmsH := Lib.hid hnms
   have htakeH := Lib.hid htake
   have hrest2H := Lib.hid hrest2
   obtain ⟨W1, hW1⟩ : ∃ W1, W1 = wr.alloc (.cells #[.string nms, .int .i64 k0, .int .i64 n0, .string s0, .slice ba bn bc, .slice fa2 fn fc2, .slice la2 ln lc2] 38) := ⟨_, rfl⟩
   have hgW := Lib.hid (show wr.grownBy W1 none by rw [hW1]; exact World.grownBy_alloc wr _ none)
   have hmap1 := Lib.hid ((hgW.out.block _ (lt_of_block hmap) (by simp)).trans hmap)
   have hblk := Lib.hid (show W1.heap[wr.heap.size]? = some (.cells #[.string nms, .int .i64 k0, .int .i64 n0, .string s0, .slice ba bn bc, .slice fa2 fn fc2, .slice la2 ln lc2] 38 (0, 0)) by rw [hW1]; exact heap_alloc_new wr _)
   obtain ⟨tw, htw⟩ : ∃ tw, tw = decide (nm ∈ ns) := ⟨_, rfl⟩
   have hlk := run_lookup_names (P := Tryz.prog) Tryz.underlying89 Tryz.underlying9 hmap1.out (Tryz.zeroValue90 _) hnamesH.out nm
   rw [← htw, ← hnms, hW1] at hlk
   have hwrap : IntKind.i64.wrap ((j : Int) + 1) = (j : Int) + 1 := IntWalk.i64_in _ (by omega)
   have hsz1 : wr.heap.size < W1.heap.size := lt_of_block hblk.out
   have htwH := Lib.hid htw
   obtain ⟨W2, hW2⟩ : ∃ W2, W2 = W1.alloc (.cells #[] 90) := ⟨_, rfl⟩
   have hgW2 := Lib.hid (show W1.grownBy W2 none by rw [hW2]; exact World.grownBy_alloc W1 _ none)
   have hval := bs_valid (w := W2) nm hnl ((htrH.out.grown hgW.out).grown hgW2.out).utf
   rw [← hnms] at hval
   have hvalH := Lib.hid hval
   have hblk2 := Lib.hid ((hgW2.out.block _ (lt_of_block hblk.out) (by simp)).trans hblk.out)
   have hmap2 := Lib.hid ((hgW2.out.block _ (lt_of_block hmap1.out) (by simp)).trans hmap1.out)
   have hwr2 := Lib.hid ((hwrH.out.keep hgW.out).keep hgW2.out)
   clear hrng hx htk hn0 hk0 hnms hnm hxe hlenj htl htake hrest2 hfw hdrop hmap hns htw htr hval
   have hbmR : w1.heap.size ≠ R := by have := lt_of_block hRH.out; omega
   have hbmP : ¬ P w1.heap.size := fun h => by have := htH.out.lt _ h; omega
   have hbmwr : w1.heap.size < wr.heap.size := lt_of_block hmapH.out
   have hRwr : R < wr.heap.size := lt_of_block hwrH.out
   have hsA := Lib.hid (show Step [] id id wr W2 from .grown (hgW.out.trans hgW2.out) (fun _ h => by cases h))
   cases hu : utf8 nm
   ·have hno := Lib.hid (show ¬ OK by rw [hOKH.out, hrest2H.out]; unfold nameOk; rw [hu]; simp)
    have hu := Lib.hid hu
    go_wp2_with (first | (go_at_call 74; rw [← hW1, ← hW2]; refine hvalH.out.mono ?_; rintro e w3 ⟨rfl, hv3⟩; rw [hu.out]; obtain ⟨cap4, W4, hcv, hs4, hli4, hlt4⟩ := bs_bytes nm w3; rw [← hnmsH.out] at hcv; have hb3 := hv3.at hblk2.out (by simp); have p0 := cell_blk hb3 (i := 0) rfl; have p1 := cell_blk hb3 (i := 1) rfl; have p2 := cell_blk hb3 (i := 2) rfl; have p3 := cell_blk hb3 (i := 3) rfl; have p4 := cell_blk hb3 (i := 4) rfl; have p5 := cell_blk hb3 (i := 5) rfl; have p6 := cell_blk hb3 (i := 6) rfl; have hb4H := Lib.hid (hs4.at hb3 (by simp)); have hv3H := Lib.hid hv3; have hs4H := Lib.hid hs4; have hli4H := Lib.hid hli4; clear hv3 hb3 hs4 hli4) | (go_at_call 72; refine (must_bad 1 _).mono ?_; rintro e w' ⟨rfl, rfl⟩))
    exact ⟨rfl, (hstH.out.tail ((hsA.out.tail hv3H.out).mono (fun _ h => by cases h))), .inr ⟨hno.out, rfl, _, hwr2.out.step hv3H.out⟩⟩
   have hu0 := hu
   have hu := Lib.hid hu
   by_cases hl : nm.length ≤ 120
   rotate_left
   ·have hl1 : ¬ (nm.length : Int) ≤ 120 := by omega
    have hno := Lib.hid (show ¬ OK by rw [hOKH.out, hrest2H.out]; unfold nameOk; simp [hl])
    go_wp2_with (first | (go_at_call 74; rw [← hW1, ← hW2]; refine hvalH.out.mono ?_; rintro e w3 ⟨rfl, hv3⟩; rw [hu.out]; obtain ⟨cap4, W4, hcv, hs4, hli4, hlt4⟩ := bs_bytes nm w3; rw [← hnmsH.out] at hcv; have hb3 := hv3.at hblk2.out (by simp); have p0 := cell_blk hb3 (i := 0) rfl; have p1 := cell_blk hb3 (i := 1) rfl; have p2 := cell_blk hb3 (i := 2) rfl; have p3 := cell_blk hb3 (i := 3) rfl; have p4 := cell_blk hb3 (i := 4) rfl; have p5 := cell_blk hb3 (i := 5) rfl; have p6 := cell_blk hb3 (i := 6) rfl; have hb4H := Lib.hid (hs4.at hb3 (by simp)); have hv3H := Lib.hid hv3; have hs4H := Lib.hid hs4; have hli4H := Lib.hid hli4; clear hv3 hb3 hs4 hli4) | (go_at_call 72; refine (must_bad 1 _).mono ?_; rintro e w' ⟨rfl, rfl⟩))
    exact ⟨rfl, (hstH.out.tail ((hsA.out.tail hv3H.out).mono (fun _ h => by cases h))), .inr ⟨hno.out, rfl, _, hwr2.out.step hv3H.out⟩⟩
   have hl1 : (nm.length : Int) ≤ 120 := by omega
   obtain ⟨Z, hZ⟩ : ∃ Z, zeroAt nm = Z := ⟨_, rfl⟩
   have hZ0 := zeroAt_neg nm
   rw [hZ] at hZ0
   have hZH := Lib.hid hZ
   by_cases h0 : (0 : UInt8) ∈ nm
   ·have hno := Lib.hid (show ¬ OK by rw [hOKH.out, hrest2H.out]; unfold nameOk; simp [h0])
    have hZn : ¬ Z < 0 := fun h => (hZ0.1 h) h0
    have hZd : decide (Z < 0) = false := decide_eq_false hZn
    clear hZ0 hZ
    go_wp2_with (first | (go_at_call 74; rw [← hW1, ← hW2]; refine hvalH.out.mono ?_; rintro e w3 ⟨rfl, hv3⟩; rw [hu.out]; obtain ⟨cap4, W4, hcv, hs4, hli4, hlt4⟩ := bs_bytes nm w3; rw [← hnmsH.out] at hcv; have hb3 := hv3.at hblk2.out (by simp); have p0 := cell_blk hb3 (i := 0) rfl; have p1 := cell_blk hb3 (i := 1) rfl; have p2 := cell_blk hb3 (i := 2) rfl; have p3 := cell_blk hb3 (i := 3) rfl; have p4 := cell_blk hb3 (i := 4) rfl; have p5 := cell_blk hb3 (i := 5) rfl; have p6 := cell_blk hb3 (i := 6) rfl; have hb4H := Lib.hid (hs4.at hb3 (by simp)); have hv3H := Lib.hid hv3; have hs4H := Lib.hid hs4; have hli4H := Lib.hid hli4; clear hv3 hb3 hs4 hli4) | (go_at_call 75; refine (bs_index0 _ _ _ nm W4 rfl hli4H.out).mono ?_; rintro e w' ⟨rfl, rfl⟩; rw [hZH.out]; have hb3 := hb4H.out; have r0 := cell_blk hb3 (i := 0) rfl; have r1 := cell_blk hb3 (i := 1) rfl; have r2 := cell_blk hb3 (i := 2) rfl; have r3 := cell_blk hb3 (i := 3) rfl; have r4 := cell_blk hb3 (i := 4) rfl; have r5 := cell_blk hb3 (i := 5) rfl; have r6 := cell_blk hb3 (i := 6) rfl; clear hb3; have hm4 := hs4H.out.at (hv3H.out.at hmap2.out (by simp)) (by simp); have hsB := (hsA.out.tail hv3H.out).tail hs4H.out; (try (have hnin2 := hninH.out; have hup := run_update_names (P := Tryz.prog) Tryz.underlying89 Tryz.underlying9 hm4 hnamesH.out hnin2; obtain ⟨W5, hW5⟩ : ∃ W5, W5 = putObj W4 w1.heap.size (.map (es.push { key := .string (strOf nm), val := .agg #[], born := clock }) (clock + 1)) := ⟨_, rfl⟩; rw [← hW5, ← hnmsH.out] at hup; have hg5 : W4.grownBy W5 (some w1.heap.size) := (by rw [hW5]; exact putObj_grown _ _); have hmap5 := Lib.hid (show W5.heap[w1.heap.size]? = some (.map (es.push { key := .string (strOf nm), val := .agg #[], born := clock }) (clock + 1)) by rw [hW5]; exact putObj_same hm4); have hwr5 := Lib.hid (show Wgh W5 R (s + 5 + (encFs (f.take j)).length) from (hg5.block R (lt_of_block ((hwr2.out.step hv3H.out).step hs4H.out)) (by simp; exact fun e => hbmR e.symm)).trans ((hwr2.out.step hv3H.out).step hs4H.out)); have hsC := Lib.hid (show Step [w1.heap.size] id id wr W5 from (hsB.mono (fun _ h => by cases h)).tail (.grown hg5 (fun k h => by cases h; simp))); have hb3 := (hg5.block _ (lt_of_block hb4H.out) (by simp; omega)).trans hb4H.out; have t0 := cell_blk hb3 (i := 0) rfl; have t1 := cell_blk hb3 (i := 1) rfl; have t2 := cell_blk hb3 (i := 2) rfl; have t3 := cell_blk hb3 (i := 3) rfl; have t4 := cell_blk hb3 (i := 4) rfl; have t5 := cell_blk hb3 (i := 5) rfl; have t6 := cell_blk hb3 (i := 6) rfl; have hb5H := Lib.hid hb3; clear hb3 hg5 hnin2 hW5)); clear hm4 hsB) | (go_at_call 72; refine (must_bad 1 _).mono ?_; rintro e w' ⟨rfl, rfl⟩))
    exact ⟨rfl, (hstH.out.tail (((hsA.out.tail hv3H.out).tail hs4H.out).mono (fun _ h => by cases h))), .inr ⟨hno.out, rfl, _, (hwr2.out.step hv3H.out).step hs4H.out⟩⟩
   have hZn : Z < 0 := hZ0.2 h0
   have hZd : decide (Z < 0) = true := decide_eq_true hZn
   have hnok := Lib.hid (show nameOk nm = true by unfold nameOk; simp [hu0, hl, h0])
   clear hZ0 hZ hu0
   cases tw
   rotate_left
   ·have hno := Lib.hid (show ¬ OK by rw [hOKH.out, hrest2H.out]; have := of_decide_eq_true htwH.out.symm; simp [this])
    go_wp2_with (first | (go_at_call 74; rw [← hW1, ← hW2]; refine hvalH.out.mono ?_; rintro e w3 ⟨rfl, hv3⟩; rw [hu.out]; obtain ⟨cap4, W4, hcv, hs4, hli4, hlt4⟩ := bs_bytes nm w3; rw [← hnmsH.out] at hcv; have hb3 := hv3.at hblk2.out (by simp); have p0 := cell_blk hb3 (i := 0) rfl; have p1 := cell_blk hb3 (i := 1) rfl; have p2 := cell_blk hb3 (i := 2) rfl; have p3 := cell_blk hb3 (i := 3) rfl; have p4 := cell_blk hb3 (i := 4) rfl; have p5 := cell_blk hb3 (i := 5) rfl; have p6 := cell_blk hb3 (i := 6) rfl; have hb4H := Lib.hid (hs4.at hb3 (by simp)); have hv3H := Lib.hid hv3; have hs4H := Lib.hid hs4; have hli4H := Lib.hid hli4; clear hv3 hb3 hs4 hli4) | (go_at_call 75; refine (bs_index0 _ _ _ nm W4 rfl hli4H.out).mono ?_; rintro e w' ⟨rfl, rfl⟩; rw [hZH.out]; have hb3 := hb4H.out; have r0 := cell_blk hb3 (i := 0) rfl; have r1 := cell_blk hb3 (i := 1) rfl; have r2 := cell_blk hb3 (i := 2) rfl; have r3 := cell_blk hb3 (i := 3) rfl; have r4 := cell_blk hb3 (i := 4) rfl; have r5 := cell_blk hb3 (i := 5) rfl; have r6 := cell_blk hb3 (i := 6) rfl; clear hb3; have hm4 := hs4H.out.at (hv3H.out.at hmap2.out (by simp)) (by simp); have hsB := (hsA.out.tail hv3H.out).tail hs4H.out; (try (have hnin2 := hninH.out; have hup := run_update_names (P := Tryz.prog) Tryz.underlying89 Tryz.underlying9 hm4 hnamesH.out hnin2; obtain ⟨W5, hW5⟩ : ∃ W5, W5 = putObj W4 w1.heap.size (.map (es.push { key := .string (strOf nm), val := .agg #[], born := clock }) (clock + 1)) := ⟨_, rfl⟩; rw [← hW5, ← hnmsH.out] at hup; have hg5 : W4.grownBy W5 (some w1.heap.size) := (by rw [hW5]; exact putObj_grown _ _); have hmap5 := Lib.hid (show W5.heap[w1.heap.size]? = some (.map (es.push { key := .string (strOf nm), val := .agg #[], born := clock }) (clock + 1)) by rw [hW5]; exact putObj_same hm4); have hwr5 := Lib.hid (show Wgh W5 R (s + 5 + (encFs (f.take j)).length) from (hg5.block R (lt_of_block ((hwr2.out.step hv3H.out).step hs4H.out)) (by simp; exact fun e => hbmR e.symm)).trans ((hwr2.out.step hv3H.out).step hs4H.out)); have hsC := Lib.hid (show Step [w1.heap.size] id id wr W5 from (hsB.mono (fun _ h => by cases h)).tail (.grown hg5 (fun k h => by cases h; simp))); have hb3 := (hg5.block _ (lt_of_block hb4H.out) (by simp; omega)).trans hb4H.out; have t0 := cell_blk hb3 (i := 0) rfl; have t1 := cell_blk hb3 (i := 1) rfl; have t2 := cell_blk hb3 (i := 2) rfl; have t3 := cell_blk hb3 (i := 3) rfl; have t4 := cell_blk hb3 (i := 4) rfl; have t5 := cell_blk hb3 (i := 5) rfl; have t6 := cell_blk hb3 (i := 6) rfl; have hb5H := Lib.hid hb3; clear hb3 hg5 hnin2 hW5)); clear hm4 hsB) | (go_at_call 72; refine (must_bad 1 _).mono ?_; rintro e w' ⟨rfl, rfl⟩))
    exact ⟨rfl, (hstH.out.tail (((hsA.out.tail hv3H.out).tail hs4H.out).mono (fun _ h => by cases h))), .inr ⟨hno.out, rfl, _, (hwr2.out.step hv3H.out).step hs4H.out⟩⟩
   have hnin := of_decide_eq_false htwH.out.symm
   have hninH := Lib.hid hnin
   clear hnin
   have h2n := Lib.hid (show (2 : Int) + (nm.length : Int) = ((2 + nm.length : Nat) : Int) by push_cast; rfl)
   by_cases hadd : s + 5 + (encFs (f.take j)).length + (2 + nm.length) ≤ 65536
   rotate_left
   ·have hno := Lib.hid (show ¬ OK by rw [hOKH.out]; intro h; have h1 := h.2.2; have h2 := htlH.out; omega)
    go_wp2_with (first | (go_at_call 74; rw [← hW1, ← hW2]; refine hvalH.out.mono ?_; rintro e w3 ⟨rfl, hv3⟩; rw [hu.out]; obtain ⟨cap4, W4, hcv, hs4, hli4, hlt4⟩ := bs_bytes nm w3; rw [← hnmsH.out] at hcv; have hb3 := hv3.at hblk2.out (by simp); have p0 := cell_blk hb3 (i := 0) rfl; have p1 := cell_blk hb3 (i := 1) rfl; have p2 := cell_blk hb3 (i := 2) rfl; have p3 := cell_blk hb3 (i := 3) rfl; have p4 := cell_blk hb3 (i := 4) rfl; have p5 := cell_blk hb3 (i := 5) rfl; have p6 := cell_blk hb3 (i := 6) rfl; have hb4H := Lib.hid (hs4.at hb3 (by simp)); have hv3H := Lib.hid hv3; have hs4H := Lib.hid hs4; have hli4H := Lib.hid hli4; clear hv3 hb3 hs4 hli4) | (go_at_call 75; refine (bs_index0 _ _ _ nm W4 rfl hli4H.out).mono ?_; rintro e w' ⟨rfl, rfl⟩; rw [hZH.out]; have hb3 := hb4H.out; have r0 := cell_blk hb3 (i := 0) rfl; have r1 := cell_blk hb3 (i := 1) rfl; have r2 := cell_blk hb3 (i := 2) rfl; have r3 := cell_blk hb3 (i := 3) rfl; have r4 := cell_blk hb3 (i := 4) rfl; have r5 := cell_blk hb3 (i := 5) rfl; have r6 := cell_blk hb3 (i := 6) rfl; clear hb3; have hm4 := hs4H.out.at (hv3H.out.at hmap2.out (by simp)) (by simp); have hsB := (hsA.out.tail hv3H.out).tail hs4H.out; (try (have hnin2 := hninH.out; have hup := run_update_names (P := Tryz.prog) Tryz.underlying89 Tryz.underlying9 hm4 hnamesH.out hnin2; obtain ⟨W5, hW5⟩ : ∃ W5, W5 = putObj W4 w1.heap.size (.map (es.push { key := .string (strOf nm), val := .agg #[], born := clock }) (clock + 1)) := ⟨_, rfl⟩; rw [← hW5, ← hnmsH.out] at hup; have hg5 : W4.grownBy W5 (some w1.heap.size) := (by rw [hW5]; exact putObj_grown _ _); have hmap5 := Lib.hid (show W5.heap[w1.heap.size]? = some (.map (es.push { key := .string (strOf nm), val := .agg #[], born := clock }) (clock + 1)) by rw [hW5]; exact putObj_same hm4); have hwr5 := Lib.hid (show Wgh W5 R (s + 5 + (encFs (f.take j)).length) from (hg5.block R (lt_of_block ((hwr2.out.step hv3H.out).step hs4H.out)) (by simp; exact fun e => hbmR e.symm)).trans ((hwr2.out.step hv3H.out).step hs4H.out)); have hsC := Lib.hid (show Step [w1.heap.size] id id wr W5 from (hsB.mono (fun _ h => by cases h)).tail (.grown hg5 (fun k h => by cases h; simp))); have hb3 := (hg5.block _ (lt_of_block hb4H.out) (by simp; omega)).trans hb4H.out; have t0 := cell_blk hb3 (i := 0) rfl; have t1 := cell_blk hb3 (i := 1) rfl; have t2 := cell_blk hb3 (i := 2) rfl; have t3 := cell_blk hb3 (i := 3) rfl; have t4 := cell_blk hb3 (i := 4) rfl; have t5 := cell_blk hb3 (i := 5) rfl; have t6 := cell_blk hb3 (i := 6) rfl; have hb5H := Lib.hid hb3; clear hb3 hg5 hnin2 hW5)); clear hm4 hsB) | (go_at_call 72; refine (must_ok 1 _).mono ?_; rintro e w' ⟨rfl, rfl⟩) | (go_at_call 73; rw [h2n.out]; refine (add_bad (n := 2 + nm.length) hwr5.out hsz hadd (by omega)).mono ?_; rintro e w6 ⟨rfl, rfl⟩))
    exact ⟨rfl, (hstH.out.tailNew hsC.out (by simp; omega)), .inr ⟨hno.out, rfl, _, hwr5.out⟩⟩
   by_cases hvk : okV deep x = true ∧ s + 5 + (encFs (f.take j)).length + (2 + nm.length) + (encV x).length ≤ 65536
   rotate_left
   ·have hno := Lib.hid (show ¬ OK by
     rw [hOKH.out, hrest2H.out]; intro h; refine hvk ⟨?_, ?_⟩
     ·have h1 := h.2.1; simp only [Bool.and_eq_true] at h1; exact h1.1.2
     ·have h1 := h.2.2; have h2 := htlH.out; omega)
    have hvkH := Lib.hid hvk
    clear hvk
    go_wp2_with (first | (go_at_call 74; rw [← hW1, ← hW2]; refine hvalH.out.mono ?_; rintro e w3 ⟨rfl, hv3⟩; rw [hu.out]; obtain ⟨cap4, W4, hcv, hs4, hli4, hlt4⟩ := bs_bytes nm w3; rw [← hnmsH.out] at hcv; have hb3 := hv3.at hblk2.out (by simp); have p0 := cell_blk hb3 (i := 0) rfl; have p1 := cell_blk hb3 (i := 1) rfl; have p2 := cell_blk hb3 (i := 2) rfl; have p3 := cell_blk hb3 (i := 3) rfl; have p4 := cell_blk hb3 (i := 4) rfl; have p5 := cell_blk hb3 (i := 5) rfl; have p6 := cell_blk hb3 (i := 6) rfl; have hb4H := Lib.hid (hs4.at hb3 (by simp)); have hv3H := Lib.hid hv3; have hs4H := Lib.hid hs4; have hli4H := Lib.hid hli4; clear hv3 hb3 hs4 hli4) | (go_at_call 75; refine (bs_index0 _ _ _ nm W4 rfl hli4H.out).mono ?_; rintro e w' ⟨rfl, rfl⟩; rw [hZH.out]; have hb3 := hb4H.out; have r0 := cell_blk hb3 (i := 0) rfl; have r1 := cell_blk hb3 (i := 1) rfl; have r2 := cell_blk hb3 (i := 2) rfl; have r3 := cell_blk hb3 (i := 3) rfl; have r4 := cell_blk hb3 (i := 4) rfl; have r5 := cell_blk hb3 (i := 5) rfl; have r6 := cell_blk hb3 (i := 6) rfl; clear hb3; have hm4 := hs4H.out.at (hv3H.out.at hmap2.out (by simp)) (by simp); have hsB := (hsA.out.tail hv3H.out).tail hs4H.out; (try (have hnin2 := hninH.out; have hup := run_update_names (P := Tryz.prog) Tryz.underlying89 Tryz.underlying9 hm4 hnamesH.out hnin2; obtain ⟨W5, hW5⟩ : ∃ W5, W5 = putObj W4 w1.heap.size (.map (es.push { key := .string (strOf nm), val := .agg #[], born := clock }) (clock + 1)) := ⟨_, rfl⟩; rw [← hW5, ← hnmsH.out] at hup; have hg5 : W4.grownBy W5 (some w1.heap.size) := (by rw [hW5]; exact putObj_grown _ _); have hmap5 := Lib.hid (show W5.heap[w1.heap.size]? = some (.map (es.push { key := .string (strOf nm), val := .agg #[], born := clock }) (clock + 1)) by rw [hW5]; exact putObj_same hm4); have hwr5 := Lib.hid (show Wgh W5 R (s + 5 + (encFs (f.take j)).length) from (hg5.block R (lt_of_block ((hwr2.out.step hv3H.out).step hs4H.out)) (by simp; exact fun e => hbmR e.symm)).trans ((hwr2.out.step hv3H.out).step hs4H.out)); have hsC := Lib.hid (show Step [w1.heap.size] id id wr W5 from (hsB.mono (fun _ h => by cases h)).tail (.grown hg5 (fun k h => by cases h; simp))); have hb3 := (hg5.block _ (lt_of_block hb4H.out) (by simp; omega)).trans hb4H.out; have t0 := cell_blk hb3 (i := 0) rfl; have t1 := cell_blk hb3 (i := 1) rfl; have t2 := cell_blk hb3 (i := 2) rfl; have t3 := cell_blk hb3 (i := 3) rfl; have t4 := cell_blk hb3 (i := 4) rfl; have t5 := cell_blk hb3 (i := 5) rfl; have t6 := cell_blk hb3 (i := 6) rfl; have hb5H := Lib.hid hb3; clear hb3 hg5 hnin2 hW5)); clear hm4 hsB) | (go_at_call 72; refine (must_ok 1 _).mono ?_; rintro e w' ⟨rfl, rfl⟩) | (go_at_call 73; rw [h2n.out]; refine (add_ok (n := 2 + nm.length) hwr5.out hsz hadd).mono ?_; rintro e w6 ⟨rfl, hr6, hs6⟩; have hb3 := hs6.at hb5H.out (by simp; omega); have v0 := cell_blk hb3 (i := 0) rfl; have v1 := cell_blk hb3 (i := 1) rfl; have v2 := cell_blk hb3 (i := 2) rfl; have v3 := cell_blk hb3 (i := 3) rfl; have v4 := cell_blk hb3 (i := 4) rfl; have v5 := cell_blk hb3 (i := 5) rfl; have v6 := cell_blk hb3 (i := 6) rfl; have hsD := Lib.hid (show Step [R, w1.heap.size] id id wr w6 from (hsC.out.mono (by simp)).tail (hs6.mono (by simp))); have hmap6 := Lib.hid (hs6.at hmap5.out (by simp; exact hbmR)); have hr6H := Lib.hid hr6; have hkk := htrH.out.old hsD.out (by simp; exact ⟨hPR, hbmP⟩); have hx6 := Lib.hid (hxH.out.keep (fun _ h => h) hkk); have ht6 := Lib.hid (htrH.out.keep hsD.out (by simp; exact ⟨hPR, hbmP⟩)); clear hb3 hs6 hr6 hkk) | (go_at_call 76; refine (hVH.out P x _ R _ deep w6 (by omega) hdp hx6.out hr6H.out hadd ht6.out hPR).mono ?_; rintro e w7 h7; obtain ⟨rfl, ⟨s', hr7⟩, hs7⟩ := h7.ill hvkH.out; have hr7H := Lib.hid hr7; have hs7H := Lib.hid hs7; clear h7 hr7 hs7))
    exact ⟨rfl, (hstH.out.tailNew (hsD.out.tail (hs7H.out.mono (by simp))) (by simp; omega)), .inr ⟨hno.out, rfl, _, hr7H.out⟩⟩
   have hvkH := Lib.hid hvk
   clear hvk
   go_wp2_with (first | (go_at_call 74; rw [← hW1, ← hW2]; refine hvalH.out.mono ?_; rintro e w3 ⟨rfl, hv3⟩; rw [hu.out]; obtain ⟨cap4, W4, hcv, hs4, hli4, hlt4⟩ := bs_bytes nm w3; rw [← hnmsH.out] at hcv; have hb3 := hv3.at hblk2.out (by simp); have p0 := cell_blk hb3 (i := 0) rfl; have p1 := cell_blk hb3 (i := 1) rfl; have p2 := cell_blk hb3 (i := 2) rfl; have p3 := cell_blk hb3 (i := 3) rfl; have p4 := cell_blk hb3 (i := 4) rfl; have p5 := cell_blk hb3 (i := 5) rfl; have p6 := cell_blk hb3 (i := 6) rfl; have hb4H := Lib.hid (hs4.at hb3 (by simp)); have hv3H := Lib.hid hv3; have hs4H := Lib.hid hs4; have hli4H := Lib.hid hli4; clear hv3 hb3 hs4 hli4) | (go_at_call 75; refine (bs_index0 _ _ _ nm W4 rfl hli4H.out).mono ?_; rintro e w' ⟨rfl, rfl⟩; rw [hZH.out]; have hb3 := hb4H.out; have r0 := cell_blk hb3 (i := 0) rfl; have r1 := cell_blk hb3 (i := 1) rfl; have r2 := cell_blk hb3 (i := 2) rfl; have r3 := cell_blk hb3 (i := 3) rfl; have r4 := cell_blk hb3 (i := 4) rfl; have r5 := cell_blk hb3 (i := 5) rfl; have r6 := cell_blk hb3 (i := 6) rfl; clear hb3; have hm4 := hs4H.out.at (hv3H.out.at hmap2.out (by simp)) (by simp); have hsB := (hsA.out.tail hv3H.out).tail hs4H.out; (try (have hnin2 := hninH.out; have hup := run_update_names (P := Tryz.prog) Tryz.underlying89 Tryz.underlying9 hm4 hnamesH.out hnin2; obtain ⟨W5, hW5⟩ : ∃ W5, W5 = putObj W4 w1.heap.size (.map (es.push { key := .string (strOf nm), val := .agg #[], born := clock }) (clock + 1)) := ⟨_, rfl⟩; rw [← hW5, ← hnmsH.out] at hup; have hg5 : W4.grownBy W5 (some w1.heap.size) := (by rw [hW5]; exact putObj_grown _ _); have hmap5 := Lib.hid (show W5.heap[w1.heap.size]? = some (.map (es.push { key := .string (strOf nm), val := .agg #[], born := clock }) (clock + 1)) by rw [hW5]; exact putObj_same hm4); have hwr5 := Lib.hid (show Wgh W5 R (s + 5 + (encFs (f.take j)).length) from (hg5.block R (lt_of_block ((hwr2.out.step hv3H.out).step hs4H.out)) (by simp; exact fun e => hbmR e.symm)).trans ((hwr2.out.step hv3H.out).step hs4H.out)); have hsC := Lib.hid (show Step [w1.heap.size] id id wr W5 from (hsB.mono (fun _ h => by cases h)).tail (.grown hg5 (fun k h => by cases h; simp))); have hb3 := (hg5.block _ (lt_of_block hb4H.out) (by simp; omega)).trans hb4H.out; have t0 := cell_blk hb3 (i := 0) rfl; have t1 := cell_blk hb3 (i := 1) rfl; have t2 := cell_blk hb3 (i := 2) rfl; have t3 := cell_blk hb3 (i := 3) rfl; have t4 := cell_blk hb3 (i := 4) rfl; have t5 := cell_blk hb3 (i := 5) rfl; have t6 := cell_blk hb3 (i := 6) rfl; have hb5H := Lib.hid hb3; clear hb3 hg5 hnin2 hW5)); clear hm4 hsB) | (go_at_call 72; refine (must_ok 1 _).mono ?_; rintro e w' ⟨rfl, rfl⟩) | (go_at_call 73; rw [h2n.out]; refine (add_ok (n := 2 + nm.length) hwr5.out hsz hadd).mono ?_; rintro e w6 ⟨rfl, hr6, hs6⟩; have hb3 := hs6.at hb5H.out (by simp; omega); have v0 := cell_blk hb3 (i := 0) rfl; have v1 := cell_blk hb3 (i := 1) rfl; have v2 := cell_blk hb3 (i := 2) rfl; have v3 := cell_blk hb3 (i := 3) rfl; have v4 := cell_blk hb3 (i := 4) rfl; have v5 := cell_blk hb3 (i := 5) rfl; have v6 := cell_blk hb3 (i := 6) rfl; have hsD := Lib.hid (show Step [R, w1.heap.size] id id wr w6 from (hsC.out.mono (by simp)).tail (hs6.mono (by simp))); have hmap6 := Lib.hid (hs6.at hmap5.out (by simp; exact hbmR)); have hr6H := Lib.hid hr6; have hkk := htrH.out.old hsD.out (by simp; exact ⟨hPR, hbmP⟩); have hx6 := Lib.hid (hxH.out.keep (fun _ h => h) hkk); have ht6 := Lib.hid (htrH.out.keep hsD.out (by simp; exact ⟨hPR, hbmP⟩)); clear hb3 hs6 hr6 hkk) | (go_at_call 76; refine (hVH.out P x _ R _ deep w6 (by omega) hdp hx6.out hr6H.out hadd ht6.out hPR).mono ?_; rintro e w7 h7; obtain ⟨rfl, hr7, hs7⟩ := h7.good hvkH.out; have hr7H := Lib.hid hr7; have hs7H := Lib.hid hs7; clear h7 hr7 hs7))
   go_roundw
   case rel =>
    have htk := htkH.out
    have hvk := hvkH.out
    have hlen : s + 5 + (encFs (f.take (j + 1))).length = s + 5 + (encFs (f.take j)).length + (2 + nm.length) + (encV x).length := by
     rw [htk]; simp only [List.length_append, List.length_cons]; omega
    refine ⟨j + 1, _, clock + 1, rfl, by omega, (hs7H.out.at hmap6.out (by simp; exact hbmR)), ?_, ?_, ?_, (hstH.out.tailNew (hsD.out.tail (hs7H.out.mono (by simp))) (by simp; omega)), ?_⟩
    ·rw [htakeH.out]; exact hnamesH.out.push
    ·rw [hlen]; exact hr7H.out
    ·rw [hlen]; exact hvk.2
    ·rw [hrest2H.out, hnok.out, hvk.1, htakeH.out, List.reverse_append]
     simp [hninH.out]
   case measure => simp [intOf]; omega
  ·have hjl1 : ¬ (j : Int) < (f.length : Int) := by omega
   have hje : f.take j = f := List.take_of_length_le (by omega)
   have hjd : f.drop j = [] := List.drop_of_length_le (by omega)
   rw [hje] at hwrH hsz
   rw [hjd, okFs] at hrestH
   clear hje hjd
   go_wp2_with fail
   go_end0
   have hM := hMH.out
   refine ⟨hstH.out, .inl ⟨?_, rfl, ?_⟩⟩
   ·rw [hOKH.out]; exact ⟨hdp, hrestH.out, by omega⟩
   ·rw [hM, Nat.add_comm _ 5, ← Nat.add_assoc]; exact hwrH.out
/-- THE WEIGHER's CONTRACTS. -/
theorem weigh_all : ∀ fuel, WghF fuel ∧ WghV fuel := by
 intro fuel
 induction fuel with
 | zero =>
  have h : WghF 0 := weigh_fields 0 (fun g hg => by cases hg)
  exact ⟨h, weigh_value 0 h⟩
 | succ n ih =>
  have h : WghF (n + 1) := weigh_fields (n + 1) (fun g hg => by cases hg; exact ih.2)
  exact ⟨h, weigh_value (n + 1) h⟩
end Go.Proofs.YtembpajlllnncaaGreatDoor
namespace Go.Proofs.YtembpajlllnncaaGreatDoor
open Go.RowKit

set_option maxRecDepth 100000 in
set_option maxHeartbeats 2000000 in
theorem catch_broke (b : Nat) (x n : Int) (older : List PanicEntry) (w : World) (h : w.heap[b]? = some (.cells #[.int .i64 x] 39 (0, 0))) :
  CallsD Tryz.prog 71 #[.pointer (some ⟨b, 0, none⟩)] (.panicking ({ v := .iface 39 (.int .i64 n), recovered := false } :: older)) w fun e u' w' =>
   e = .returned (.tuple #[]) ∧ u' = .panicking ({ v := .iface 39 (.int .i64 n), recovered := true } :: older) ∧ w' = w.setCell ⟨b, 0, none⟩ (.int .i64 n) := by
 have hc := cell_blk h (i := 0) rfl
 have hz := free_blk h 0
 refine callsD_of_wpS Tryz.func71 rfl fun c₀ cs hu => ?_
 apply wpS_seq
 apply wpS_region
 simp [wpOpsS, go_sem, recoverD, hu, Tryz.ntmps71, Exit.thenS]
 refine wpS_of_wp ?_
 have hta : ∀ w : World, (Instr.typeAssert (.iface 39 (.int .i64 n)) 20 39 true).run Tryz.prog w = .ok (.tuple #[.int .i64 n, .bool true]) w := fun _ => by kernel_rfl
 go_wp2_with fail
 cases c₀
 simp_all [bodyPostS, results, Tryz.results71]
set_option maxRecDepth 100000 in
theorem catch_idle (b : Nat) (w : World) :
  CallsD Tryz.prog 71 #[.pointer (some ⟨b, 0, none⟩)] .returning w fun e u' w' => e = .returned (.tuple #[]) ∧ u' = .returning ∧ w' = w := by
 refine callsD_of_wpS Tryz.func71 rfl fun c₀ cs hu => ?_
 apply wpS_seq
 apply wpS_region
 simp [wpOpsS, go_sem, recoverD, hu, Tryz.ntmps71, Exit.thenS]
 refine wpS_of_wp ?_
 go_wp2
 cases c₀
 simp_all [bodyPostS, results, Tryz.results71]
set_option maxRecDepth 100000 in
theorem tried_ok (f : FuncId) (caps : Array Value) (w : World) (R : World → Prop) (T : List Nat) (hT : w.heap.size ∉ T) (hcf : ∀ w, (callFunc f caps).run Tryz.prog w = .ok (.enter f caps) w)
  (h : Calls Tryz.prog f caps (w.alloc (.cells #[.int .i64 0] 39)) fun e w' => e = done0 ∧ R w' ∧ Step T id id (w.alloc (.cells #[.int .i64 0] 39)) w') :
  Calls Tryz.prog 56 #[.func (.func f) #[] caps] w fun e w' => e = .returned (.int .i64 0) ∧ ∃ w1, R w1 ∧ w1.grownBy w' (some w.heap.size) ∧ Step T id id w w' := by
 have hmf : ∀ (fn : Fn) (first cap : Array Value) (w : World), (Instr.makeFunc fn first cap).run Tryz.prog w = .ok (.func fn first cap) w := fun _ _ _ _ => rfl
 have hH := Lib.hid h
 clear h
 go_enter_defers Tryz.func56, Tryz.ntmps56
 go_wp2_with fail
 refine hH.out.mono ?_
 rintro e w1 ⟨rfl, hR, hst⟩
 have hblk := hst.at (heap_alloc_new w _) hT
 have hq := cell_blk hblk (i := 0) rfl
 have hz := free_blk hblk 0
 have hRH := Lib.hid hR
 have hstH := Lib.hid hst
 have hblkH := Lib.hid hblk
 clear hR hst hblk
 go_wp2_with fail
 refine leaves_cons (f := 71) (args := #[.pointer (some ⟨w.heap.size, 0, none⟩)]) (by simp) (by simp [go_sem]) ?_
 refine (catch_idle w.heap.size _).mono ?_
 rintro e u' w'' ⟨rfl, rfl, rfl⟩
 simp [Leaves, settle, results, Tryz.results56, go_sem, hq, hz]
 exact ⟨w1, hRH.out, ⟨rfl, rfl, rfl, by simp, fun k _ hk => Below.heap_setCell _ _ _ _ (fun e => hk (by rw [e]))⟩, (((Step.alloc _).tail hstH.out)).tailNew (T2 := [w.heap.size]) (Step.set _ _ (by simp)) (by simp)⟩
set_option maxRecDepth 100000 in
set_option maxHeartbeats 2000000 in
theorem tried_broke (n : Int) (f : FuncId) (caps : Array Value) (w : World) (R : World → Prop) (T : List Nat) (hT : w.heap.size ∉ T) (hcf : ∀ w, (callFunc f caps).run Tryz.prog w = .ok (.enter f caps) w)
  (h : Calls Tryz.prog f caps (w.alloc (.cells #[.int .i64 0] 39)) fun e w' => e = broke n ∧ R w' ∧ Step T id id (w.alloc (.cells #[.int .i64 0] 39)) w') :
  Calls Tryz.prog 56 #[.func (.func f) #[] caps] w fun e w' => e = .returned (.int .i64 n) ∧ ∃ w1, R w1 ∧ w1.grownBy w' (some w.heap.size) ∧ Step T id id w w' := by
 have hmf : ∀ (fn : Fn) (first cap : Array Value) (w : World), (Instr.makeFunc fn first cap).run Tryz.prog w = .ok (.func fn first cap) w := fun _ _ _ _ => rfl
 have hH := Lib.hid h
 clear h
 go_enter_defers Tryz.func56, Tryz.ntmps56
 go_wp2_with fail
 refine hH.out.mono ?_
 rintro e w1 ⟨rfl, hR, hst⟩
 have hblk := hst.at (heap_alloc_new w _) hT
 have hq := cell_blk hblk (i := 0) rfl
 have hz := free_blk hblk 0
 have hRH := Lib.hid hR
 have hstH := Lib.hid hst
 have hblkH := Lib.hid hblk
 clear hR hst hblk
 refine leaves_cons (f := 71) (args := #[.pointer (some ⟨w.heap.size, 0, none⟩)]) (by simp) (by simp [go_sem]) ?_
 refine (catch_broke w.heap.size 0 n [] _ hblkH.out).mono ?_
 rintro e u' w'' ⟨rfl, rfl, rfl⟩
 simp [Leaves, settle, results, Tryz.results56, go_sem, hq, hz]
 exact ⟨w1, hRH.out, ⟨rfl, rfl, rfl, by simp, fun k _ hk => Below.heap_setCell _ _ _ _ (fun e => hk (by rw [e]))⟩, (((Step.alloc _).tail hstH.out)).tailNew (T2 := [w.heap.size]) (Step.set _ _ (by simp)) (by simp)⟩
end Go.Proofs.YtembpajlllnncaaGreatDoor
namespace Go.Proofs.YtembpajlllnncaaGreatDoor
open Go.RowKit

set_option maxRecDepth 100000 in
set_option maxHeartbeats 2000000 in
theorem size_part {P : Nat → Prop} {w : World} {x : Val} {cs : List Value} {V Q R : Nat} (hV : w.heap[V]? = some (.cells cs.toArray 35 (0, 0))) (hQ : w.heap[Q]? = some (.cells #[.pointer (some ⟨R, 0, none⟩)] 73 (0, 0)))
  (hR : Wgh w R 0) (hx : VIs P w x cs) (ht : Tabs P w) (hPR : ¬ P R) :
  Calls Tryz.prog 57 #[.pointer (some ⟨Q, 0, none⟩), .pointer (some ⟨V, 0, none⟩)] w fun e w' => WPost (1 ≤ 32 ∧ okFs 1 [] x.f = true ∧ 0 + (wrapDoc (encFs x.f)).length ≤ 65536) R (0 + (wrapDoc (encFs x.f)).length) w w' e := by
 obtain ⟨bv, fa, fc, la, lc, rfl, hb, ⟨hfc, hlc, hfn, hln⟩, -, ⟨hs2, hb2, hf2, hl2⟩, hf, hl⟩ := hx.cells
 have q0 := cell_blk hQ (i := 0) rfl
 have v4 := cell_blk hV (i := 4) rfl
 have hF := (weigh_all 34).1 P x.f fa fc R 0 1 w (by omega) (by omega) hfc hf2 hf hR (by omega) ht hPR
 generalize hn : x.f.length = n at *
 have hFH := Lib.hid hF
 clear hF hV hQ hR hx ht hf hl hb hn
 go_enter Tryz.func57, Tryz.ntmps57
 go_wp2_with fail
 refine hFH.out.mono ?_
 rintro e w' ⟨hst, ⟨hk, rfl, hr⟩ | ⟨hk, rfl, hr⟩⟩
 ·have h3 := Lib.hid hst
  have h4 := Lib.hid hr
  have h5 := Lib.hid hk
  clear hst hr hk
  go_wp2_with fail
  go_end0
  exact ⟨h3.out, .inl ⟨h5.out, rfl, h4.out⟩⟩
 ·exact ⟨rfl, hst, .inr ⟨hk, rfl, hr⟩⟩
set_option maxRecDepth 100000 in
set_option maxHeartbeats 4000000 in
theorem bs_size {P : Nat → Prop} {w : World} {x : Val} {cs : List Value} (hx : VIs P w x cs) (ht : Tabs P w) :
  Calls Tryz.prog 41 #[.agg cs.toArray] w fun e w' => e = .returned (.int .i64 (sizeOf_ x)) ∧ Step [] id id w w' := by
 have hmf : ∀ (fn : Fn) (first cap : Array Value) (w : World), (Instr.makeFunc fn first cap).run Tryz.prog w = .ok (.func fn first cap) w := fun _ _ _ _ => rfl
 obtain ⟨s0, ba, bn, bc, fa, fn, fc, la, ln, lc, hcs, -⟩ := hx.six
 obtain ⟨n0, hn0⟩ : ∃ k, k = x.num := ⟨_, rfl⟩
 obtain ⟨k0, hk0⟩ : ∃ k, k = x.kind := ⟨_, rfl⟩
 rw [← hk0, ← hn0] at hcs
 subst hcs
 clear hn0
 obtain ⟨W1, hW1⟩ : ∃ W1, W1 = w.alloc (.cells #[.int .i64 k0, .int .i64 n0, .string s0, .slice ba bn bc, .slice fa fn fc, .slice la ln lc] 35) := ⟨_, rfl⟩
 obtain ⟨W2, hW2⟩ : ∃ W2, W2 = W1.alloc (.cells #[.int .i64 0] 75) := ⟨_, rfl⟩
 obtain ⟨W3, hW3⟩ : ∃ W3, W3 = W2.alloc (.cells #[.pointer (some ⟨w.heap.size + 1, 0, none⟩)] 73) := ⟨_, rfl⟩
 obtain ⟨S, hS⟩ : ∃ S, S = sizeOf_ x := ⟨_, rfl⟩
 rw [← hS]
 have z1 : W1.heap.size = w.heap.size + 1 := by rw [hW1]; simp
 have z2 : W2.heap.size = w.heap.size + 1 + 1 := by rw [hW2]; simp [z1]
 have hV : W3.heap[w.heap.size]? = some (.cells #[.int .i64 k0, .int .i64 n0, .string s0, .slice ba bn bc, .slice fa fn fc, .slice la ln lc] 35 (0, 0)) := by
  rw [hW3]; refine alloc_old ?_; rw [hW2]; refine alloc_old ?_; rw [hW1]; exact heap_alloc_new w _
 have hR : Wgh W3 (w.heap.size + 1) 0 := by
  unfold Wgh; rw [hW3]; refine alloc_old ?_; rw [hW2, ← z1]; exact heap_alloc_new W1 _
 have hQ : W3.heap[w.heap.size + 1 + 1]? = some (.cells #[.pointer (some ⟨w.heap.size + 1, 0, none⟩)] 73 (0, 0)) := by
  rw [hW3, ← z2]; exact heap_alloc_new W2 _
 have hg3 : w.grownBy W3 none := by rw [hW3, hW2, hW1]; exact ((World.grownBy_alloc w _ none).trans (World.grownBy_alloc _ _ none)).trans (World.grownBy_alloc _ _ none)
 have hx3 := Lib.hid (hx.keep (P2 := P) (fun _ h => h) (fun k hP hk => hg3.block k hk (by simp)))
 have ht3 := ht.grown hg3
 have hPR : ¬ P (w.heap.size + 1) := fun h => by have := ht.lt _ h; omega
 have hg3H := Lib.hid hg3
 -- the call of tried
 have hsub : ∀ w5, W3.grownBy w5 none → Calls Tryz.prog 56 #[.func (.func 57) #[] #[.pointer (some ⟨w.heap.size + 1 + 1, 0, none⟩), .pointer (some ⟨w.heap.size, 0, none⟩)]] w5 fun e w6 =>
   e = .returned (.int .i64 (if okFs 1 [] x.f = true ∧ (wrapDoc (encFs x.f)).length ≤ 65536 then 0 else 1)) ∧ Step [] id id w w6 ∧ (okFs 1 [] x.f = true ∧ (wrapDoc (encFs x.f)).length ≤ 65536 → w6.heap[w.heap.size + 1 + 1]? = some (.cells #[.pointer (some ⟨w.heap.size + 1, 0, none⟩)] 73 (0, 0)) ∧ Wgh w6 (w.heap.size + 1) (wrapDoc (encFs x.f)).length) := fun w5 hg5 => by
  have hs35 := hg5.size
  have hl3 : w.heap.size + 1 + 1 < W3.heap.size := lt_of_block hQ
  have hgA : W3.grownBy (w5.alloc (.cells #[.int .i64 0] 39)) none := hg5.trans (World.grownBy_alloc _ _ none)
  have bk : ∀ k o, W3.heap[k]? = some o → (w5.alloc (.cells #[.int .i64 0] 39)).heap[k]? = some o := fun k o h => (hgA.block k (lt_of_block h) (by simp)).trans h
  have hpart := size_part (P := P) (V := w.heap.size) (Q := w.heap.size + 1 + 1) (R := w.heap.size + 1) (bk _ _ hV) (bk _ _ hQ) (bk _ _ hR) (hx3.out.keep (fun _ h => h) (fun k hP hk => hgA.block k hk (by simp))) (ht3.grown hgA) hPR
  have hcf : ∀ w0, (callFunc 57 #[.pointer (some ⟨w.heap.size + 1 + 1, 0, none⟩), .pointer (some ⟨w.heap.size, 0, none⟩)]).run Tryz.prog w0 = .ok (.enter 57 #[.pointer (some ⟨w.heap.size + 1 + 1, 0, none⟩), .pointer (some ⟨w.heap.size, 0, none⟩)]) w0 := fun _ => by simp [go_sem]
  have hT : w5.heap.size ∉ [w.heap.size + 1] := by simp; omega
  by_cases hok : okFs 1 [] x.f = true ∧ (wrapDoc (encFs x.f)).length ≤ 65536
  ·rw [if_pos hok]
   refine (tried_ok 57 _ w5 (fun W => W.heap[w.heap.size + 1 + 1]? = some (.cells #[.pointer (some ⟨w.heap.size + 1, 0, none⟩)] 73 (0, 0)) ∧ Wgh W (w.heap.size + 1) (wrapDoc (encFs x.f)).length) [w.heap.size + 1] hT hcf (hpart.mono fun e w' h => ?_)).mono ?_
   ·obtain ⟨rfl, hr, hst⟩ := h.good ⟨by omega, hok.1, by omega⟩
    rw [Nat.zero_add] at hr
    exact ⟨rfl, ⟨hst.at (bk _ _ hQ) (by simp), hr⟩, hst⟩
   ·rintro e w6 ⟨rfl, w7, ⟨hq7, hr7⟩, hg7, hst7⟩
    refine ⟨rfl, ?_, fun _ => ⟨(hg7.block _ (lt_of_block hq7) (by simp; omega)).trans hq7, (hg7.block _ (lt_of_block hr7) (by simp; omega)).trans hr7⟩⟩
    exact ((Step.grown (hg3H.out.trans hg5) (fun _ h => by cases h)).tailNew hst7 (by simp))
  ·rw [if_neg hok]
   refine (tried_broke 1 57 _ w5 (fun W => True) [w.heap.size + 1] hT hcf (hpart.mono fun e w' h => ?_)).mono ?_
   ·obtain ⟨rfl, hr, hst⟩ := h.ill (fun h => hok ⟨h.2.1, by have := h.2.2; omega⟩)
    exact ⟨rfl, trivial, hst⟩
   ·rintro e w6 ⟨rfl, w7, -, hg7, hst7⟩
    refine ⟨rfl, ?_, fun h => absurd h hok⟩
    exact ((Step.grown (hg3H.out.trans hg5) (fun _ h => by cases h)).tailNew hst7 (by simp))
 have hdoc : okDoc x = (decide (k0 = 6) && x.plain && okFs 1 [] x.f && decide ((wrapDoc (encFs x.f)).length ≤ 65536)) := by unfold okDoc; rw [hk0]
 have hdocH := Lib.hid hdoc
 have hSH := Lib.hid hS
 obtain ⟨pl, hpl⟩ : ∃ pl, x.plain = pl := ⟨_, rfl⟩
 have hp := Lib.hid hpl
 have hsubH := Lib.hid hsub
 clear hx ht hk0 z1 z2 hV hR hQ hg3 ht3 hsub hdoc hS hpl
 have hsub := fun w5 h => hsubH.out w5 h
 by_cases hk : k0 = 6
 rotate_left
 ·have hS0 : S = 0 := by rw [hSH.out, sizeOf_, hdocH.out]; simp [hk]
  subst hS0
  clear hsub
  go_enter Tryz.func41, Tryz.ntmps41
  go_wp2_with fail
  go_ret
  exact ⟨rfl, by rw [← hW1, ← hW2, ← hW3]; exact .grown hg3H.out (fun _ h => by cases h)⟩
 subst hk
 cases pl
 ·have hS0 : S = 0 := by rw [hSH.out, sizeOf_, hdocH.out, hp.out]; simp
  subst hS0
  have hsub := Lib.hid hsub
  go_enter Tryz.func41, Tryz.ntmps41
  go_wp2_with (go_at_call 55; rw [← hW1, ← hW2, ← hW3]; refine (bs_plain _ _ W3 hx3.out).mono ?_; rintro e w5 ⟨rfl, hg5⟩; rw [hp.out]; have hg5H := Lib.hid hg5; clear hg5)
  go_ret
  exact ⟨rfl, .grown (hg3H.out.trans hg5H.out) (fun _ h => by cases h)⟩
 by_cases hok : okFs 1 [] x.f = true ∧ (wrapDoc (encFs x.f)).length ≤ 65536
 ·have hS0 : S = (wrapDoc (encFs x.f)).length := by rw [hSH.out, sizeOf_, hdocH.out, hp.out]; simp [hok.1, hok.2]
  have hokH := Lib.hid hok
  clear hok
  have hsub := Lib.hid (fun w5 h => (hsub w5 h).mono fun e w6 h => (show e = .returned (.int .i64 0) ∧ Step [] id id w w6 ∧ w6.heap[w.heap.size + 1 + 1]? = some (.cells #[.pointer (some ⟨w.heap.size + 1, 0, none⟩)] 73 (0, 0)) ∧ Wgh w6 (w.heap.size + 1) S from by
   rw [if_pos hokH.out] at h; rw [hS0]; exact ⟨h.1, h.2.1, h.2.2 hokH.out⟩))
  clear hS0
  go_enter Tryz.func41, Tryz.ntmps41
  go_wp2_with (first | (go_at_call 55; rw [← hW1, ← hW2, ← hW3]; refine (bs_plain _ _ W3 hx3.out).mono ?_; rintro e w5 ⟨rfl, hg5⟩; rw [hp.out]; have hg5H := Lib.hid hg5; clear hg5) | (go_at_call 56; refine (hsub.out _ hg5H.out).mono ?_; rintro e w6 ⟨rfl, hst6, hq6, hr6⟩; have c1 := cell_blk hq6 (i := 0) rfl; have c2 := cell_blk hr6 (i := 0) rfl; have hst6H := Lib.hid hst6; clear hst6 hq6 hr6))
  go_ret
  exact ⟨rfl, hst6H.out⟩
 ·have hS0 : S = 0 := by
   rw [hSH.out, sizeOf_, hdocH.out, hp.out]
   rcases Classical.em (okFs 1 [] x.f = true) with h1 | h1
   ·have h2 : ¬ (wrapDoc (encFs x.f)).length ≤ 65536 := fun h => hok ⟨h1, h⟩
    simp [h2]
   ·simp [h1]
  subst hS0
  have hokH := Lib.hid hok
  clear hok
  have hsub := Lib.hid (fun w5 h => (hsub w5 h).mono fun e w6 h => (show e = .returned (.int .i64 1) ∧ Step [] id id w w6 from by
   rw [if_neg hokH.out] at h; exact ⟨h.1, h.2.1⟩))
  go_enter Tryz.func41, Tryz.ntmps41
  go_wp2_with (first | (go_at_call 55; rw [← hW1, ← hW2, ← hW3]; refine (bs_plain _ _ W3 hx3.out).mono ?_; rintro e w5 ⟨rfl, hg5⟩; rw [hp.out]; have hg5H := Lib.hid hg5; clear hg5) | (go_at_call 56; refine (hsub.out _ hg5H.out).mono ?_; rintro e w6 ⟨rfl, hst6⟩; have hst6H := Lib.hid hst6; clear hst6))
  go_ret
  exact ⟨rfl, hst6H.out⟩
theorem sizeOf_pos (x : Val) : 0 < sizeOf_ x ↔ okDoc x = true := by
 unfold sizeOf_
 have := wrapDoc_length (encFs x.f)
 split <;> simp_all
end Go.Proofs.YtembpajlllnncaaGreatDoor
