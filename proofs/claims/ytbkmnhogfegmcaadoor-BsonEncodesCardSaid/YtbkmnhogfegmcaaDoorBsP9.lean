/- The reference: own: lists. -/
import Derived.Test.YtbkmnhogfegmcaaDoorBsP8
set_option linter.unusedVariables false
set_option linter.unusedSimpArgs false
namespace Go.Proofs.YtbkmnhogfegmcaaDoor
open Go.RowKit

theorem okV_list {d : Nat} {n : Int} {s b : Bs} {f : List (Bs × Val)} {l : List Val} : okV d (.mk 7 n s b f l) = (bareB (.mk 7 n s b f l) false false false false true && (decide (d + 1 ≤ 32) && okLs (d + 1) l)) ∧ encV (.mk 7 n s b f l) = wrapDoc (encLs 0 l) := by
  rw [okV, encV]; simp [Val.plain, bareB, codeOf]
theorem named_snoc : ∀ (i : Nat) (a : List Val) (x : Val), named i (a ++ [x]) = named i a ++ [(itoa (i + a.length), x)]
  | i, [], x => by simp [named]
  | i, v :: r, x => by
    rw [List.cons_append, named, named, named_snoc (i + 1) r x, List.cons_append, List.length_cons, show i + 1 + r.length = i + (r.length + 1) by omega]
theorem weightLs_getP : ∀ (l : List Val) (i : Nat) (h : i < l.length), weightV l[i] ≤ weightLs l
  | v :: r, 0, _ => by simp [weightLs]
  | v :: r, i + 1, h => by
    have := weightLs_getP r i (by simpa using h)
    simp [weightLs]; omega
set_option maxRecDepth 100000 in
set_option maxHeartbeats 8000000 in
theorem own_list (N : Nat) (ih : OwnC N) {P : Nat → Prop} {w : World} {d : Nat} {k n : Int} {s b : Bs} {f : List (Bs × Val)} {l : List Val} {cs : List Value} (hk : k = 7) (hx : VIs P w (.mk k n s b f l) cs) (hls : ∀ j (h : j < l.length), SizeOf.sizeOf l[j] < N) (hw : weightLs l ≤ 3000) (hd : d ≤ 40) :
    Calls Tryd.prog 35 #[.agg cs.toArray, .int .i64 ((d : Int) + 1)] w (OwnP P (.mk k n s b f l) d w) := by
  obtain ⟨bv, fa, fc, la, lc, hcs, hb, ⟨hfc, hlc, hfz, hlz⟩, ⟨hk1, hk2, hn1, hn2⟩, -, hf, hl⟩ := hx.cells
  obtain ⟨ba, bc, rfl⟩ := hb.shape
  simp only [Val.kind, Val.num, Val.s, Val.b, Val.f, Val.l] at *
  obtain ⟨S0, hS0⟩ : ∃ k, k = strOf s := ⟨_, rfl⟩
  obtain ⟨bn, hbn⟩ : ∃ k, k = b.length := ⟨_, rfl⟩
  obtain ⟨ln, hln⟩ : ∃ k, k = l.length := ⟨_, rfl⟩
  obtain ⟨fn, hfn⟩ : ∃ k, k = f.length := ⟨_, rfl⟩
  rw [← hS0, ← hbn, ← hln, ← hfn] at hcs
  rw [← hbn] at hb
  subst hcs
  obtain ⟨W1, hW1⟩ : ∃ W1, W1 = w.alloc (.cells #[.int .i64 k, .int .i64 n, .string S0, .slice ba bn bc, .slice fa fn fc, .slice la ln lc] 27) := ⟨_, rfl⟩
  have hst1 : Step [] id id w W1 := by rw [hW1]; exact Step.alloc _
  have hV : W1.heap[w.heap.size]? = some (.cells #[.int .i64 k, .int .i64 n, .string S0, .slice ba bn bc, .slice fa fn fc, .slice la ln lc] 27 (0, 0)) := by rw [hW1]; exact heap_alloc_new _ _
  have hx1 := hx.keep (P2 := P) (w' := W1) (fun _ h => h) (fun k hP hk => (hst1.keep k hk (by simp)).2)
  obtain ⟨v0, v1, v2, v3, v4, v5⟩ := cells_of6P hV
  have hVl : w.heap.size < W1.heap.size := lt_of_block hV
  have hVH := Lib.hid hV
  have hx1H := Lib.hid hx1
  have hW1H := Lib.hid hW1
  have hst1H := Lib.hid hst1
  have hS0H := Lib.hid hS0
  have hbnH := Lib.hid hbn
  have hlnH := Lib.hid hln
  have hfnH := Lib.hid hfn
  have hbH := Lib.hid hb
  have hfH := Lib.hid hf
  have hlH := Lib.hid hl
  clear hx hb hf hl hS0 hbn hln hfn hst1 hV hx1 hW1 hfc hlc hfz hlz hk1 hk2
  subst hk
  obtain ⟨he, hen⟩ := okV_list (d := d) (n := n) (s := s) (b := b) (f := f) (l := l)
  have hbc := Lib.hid (ref_bare_l hx1H.out)
  have hll := weightLs_len l
  have hln3 : ln ≤ 3000 := by rw [hlnH.out]; omega
  have heH := Lib.hid he
  have henH := Lib.hid hen
  have hlsH := Lib.hid hls
  have hwH := Lib.hid hw
  have hlbH := Lib.hid (LIs.below l la 0 hlH.out)
  clear he hen hls hw hll
  obtain ⟨r, hr⟩ : ∃ r, r = bareB (.mk 7 n s b f l) false false false false true := ⟨_, rfl⟩
  have hrH := Lib.hid hr
  clear hr
  go_enter Tryd.func35, Tryd.ntmps35
  go_wp2_with fail
  rw [← hW1H.out]
  refine hbc.out.mono ?_
  rintro e w2 ⟨rfl, hs2⟩
  rw [← hrH.out]
  have hV2 := hs2.at hVH.out (by simp)
  obtain ⟨v0, v1, v2, v3, v4, v5⟩ := cells_of6P hV2
  have hVl2 : w.heap.size < w2.heap.size := World.block_lt_of_cell? w2 _ v0
  have hs2H := Lib.hid hs2
  have hV2H := Lib.hid hV2
  clear hs2 hV2
  cases r
  · have hokH := Lib.hid (show okV d (.mk 7 n s b f l) = false by rw [heH.out, ← hrH.out]; rfl)
    go_wp2_with fail
    go_ret2
    exact ⟨none, 0, 0, by rw [hokH.out]; rfl, fun h => absurd h (by rw [hokH.out]; simp), hst1H.out.tail hs2H.out⟩
  · by_cases h32 : d + 1 ≤ 32
    rotate_left
    · have hdi : (32 : Int) < (d : Int) + 1 := by omega
      have hokH := Lib.hid (show okV d (.mk 7 n s b f l) = false by rw [heH.out, ← hrH.out, decide_eq_false h32]; rfl)
      go_wp2_with fail
      go_ret2
      exact ⟨none, 0, 0, by rw [hokH.out]; rfl, fun h => absurd h (by rw [hokH.out]; simp), hst1H.out.tail hs2H.out⟩
    have hdi : ¬ (32 : Int) < (d : Int) + 1 := by omega
    have hlni : ¬ (65536 : Int) < (ln : Int) := by omega
    have h2w := hst1H.out.tail hs2H.out
    have h2wH := Lib.hid h2w
    clear h2w
    go_wp2_with fail
    clear v0 v1 v2 v3 v4 v5
    go_loopw [6, 7] (fun v i wr => ∃ (j : Nat) (va : Option Addr) (vc : Nat) (xs : List Value), i = .int .i64 j ∧ j ≤ ln ∧ v = .slice va j vc ∧ wr.ownsRow 0 44 7 (.slice va j vc) j xs ∧ FRow (fun _ k => P k ∧ k < w.heap.size) wr (named 0 (l.take j)) xs ∧ (∀ k, (Value.slice va j vc).ownBlock = some k → w2.heap.size ≤ k) ∧ Step [] id id w2 wr) (fun _ i _ => ln - (intOf i).toNat)
    case atStart => exact ⟨0, none, 0, [], rfl, Nat.zero_le _, rfl, World.ownsRow_nil _ _ _ _, ⟨by simp [named], fun i hi => by simp [named] at hi⟩, fun k hk => (by cases hk), Step.refl _ _ _⟩
    case round =>
      obtain ⟨j, va, vc, xs, rfl, hj, rfl, hown, hrow, hnew, hst⟩ := hrel
      have hVr := hst.at hV2H.out (by simp)
      have v5 := cell_blk hVr (i := 5) rfl
      have hVlr := lt_of_block hVr
      by_cases hjl : j < ln
      · have hjl1 : (j : Int) < (ln : Int) := by omega
        have hj0 : (0 : Int) ≤ (j : Int) := by omega
        have hjL : j < l.length := by rw [← hlnH.out]; exact hjl
        obtain ⟨lb, lo, es, hae, hPb, hrng, hxj⟩ := (LIs.keep (P2 := fun k => P k ∧ k < w.heap.size) (fun _ h => h) (fun k hP hk => ((h2wH.out.tail hst).keep k hk (by simp)).2) l la 0 hlbH.out).get hjL
        subst hae
        obtain ⟨s1, ba2, bn2, bc2, fa2, fn2, fc2, la2, ln2, lc2, hes, -⟩ := hxj.six
        obtain ⟨n1, hn1'⟩ : ∃ k, k = l[j].num := ⟨_, rfl⟩
        obtain ⟨k1, hk1'⟩ : ∃ k, k = l[j].kind := ⟨_, rfl⟩
        rw [← hk1', ← hn1'] at hes
        rw [hes, Nat.zero_add] at hrng
        subst hes
        have q0 := hrng 0 _ rfl
        have q1 := hrng 1 _ rfl
        have q2 := hrng 2 _ rfl
        have q3 := hrng 3 _ rfl
        have q4 := hrng 4 _ rfl
        have q5 := hrng 5 _ rfl
        rw [Nat.add_zero] at q0
        have hlbl := World.block_lt_of_cell? wr _ q0
        have hlbw : lb < w.heap.size := hPb.2
        have hwrap : IntKind.i64.wrap ((j : Int) + 1) = (j : Int) + 1 := IntWalk.i64_in _ (by omega)
        have htk : named 0 (l.take (j + 1)) = named 0 (l.take j) ++ [(itoa j, l[j])] := by
          rw [List.take_succ_eq_append_getElem hjL, named_snoc, List.length_take, Nat.min_eq_left (by omega), Nat.zero_add]
        have htkH := Lib.hid htk
        have hownH := Lib.hid hown
        have hrowH := Lib.hid hrow
        have hnewH := Lib.hid hnew
        have hstH := Lib.hid hst
        have hxjH := Lib.hid hxj
        have hVrH := Lib.hid hVr
        clear hown hrow hnew hst hxj hVr htk hrng hn1' hk1' hPb
        go_wp2_with fail
        refine wp_region_held_drew (S := fun w' => w'.cell? ⟨w.heap.size, 5, none⟩ = some (.slice (some ⟨lb, lo, none⟩) ln lc) ∧ w'.cell? ⟨lb, lo + j * 6, none⟩ = some (.int .i64 k1) ∧ w'.cell? ⟨lb, lo + j * 6 + 1, none⟩ = some (.int .i64 n1) ∧ w'.cell? ⟨lb, lo + j * 6 + 2, none⟩ = some (.string s1) ∧ w'.cell? ⟨lb, lo + j * 6 + 3, none⟩ = some (.slice ba2 bn2 bc2) ∧ w'.cell? ⟨lb, lo + j * 6 + 4, none⟩ = some (.slice fa2 fn2 fc2) ∧ w'.cell? ⟨lb, lo + j * 6 + 5, none⟩ = some (.slice la2 ln2 lc2)) (by kernel_rfl) ⟨v5, q0, q1, q2, q3, q4, q5⟩ (fun hHeld => ?_)
        have hS : ∀ W, Step [] id id wr W → W.cell? ⟨w.heap.size, 5, none⟩ = some (.slice (some ⟨lb, lo, none⟩) ln lc) ∧ W.cell? ⟨lb, lo + j * 6, none⟩ = some (.int .i64 k1) ∧ W.cell? ⟨lb, lo + j * 6 + 1, none⟩ = some (.int .i64 n1) ∧ W.cell? ⟨lb, lo + j * 6 + 2, none⟩ = some (.string s1) ∧ W.cell? ⟨lb, lo + j * 6 + 3, none⟩ = some (.slice ba2 bn2 bc2) ∧ W.cell? ⟨lb, lo + j * 6 + 4, none⟩ = some (.slice fa2 fn2 fc2) ∧ W.cell? ⟨lb, lo + j * 6 + 5, none⟩ = some (.slice la2 ln2 lc2) := fun W hW => by
          have hk : ∀ (p : Addr) v, wr.cell? p = some v → W.cell? p = some v := fun p v hv => (World.cell?_of_block (a := p) ((hW.keep p.block (World.block_lt_of_cell? wr p hv) (by simp)).2)).trans hv
          exact ⟨hk _ _ v5, hk _ _ q0, hk _ _ q1, hk _ _ q2, hk _ _ q3, hk _ _ q4, hk _ _ q5⟩
        have hSH := Lib.hid hS
        clear hS
        refine wpAnyH_take (i := 0) (v := ?_) rfl (by kernel_rfl) (by kernel_rfl) (by kernel_rfl) (fun _ _ _ h => h) (Or.inl ⟨by kernel_rfl, ?_⟩) hHeld ?_
        rotate_left
        · intro w' hSw; (try dsimp only at hSw); go_simp
          all_goals (with_reducible rfl)
        simp only [Act.put, List.getElem_toArray, List.getElem_cons_zero, List.getElem_cons_succ, List.setIfInBounds_toArray, List.set_cons_zero, List.set_cons_succ]
        refine wpAnyH_take (i := 1) (v := ?_) rfl (by kernel_rfl) (by kernel_rfl) (by kernel_rfl) (fun _ _ _ h => h) (Or.inl ⟨by kernel_rfl, ?_⟩) hHeld ?_
        rotate_left
        · intro w' hSw; (try dsimp only at hSw); go_simp
          all_goals (with_reducible rfl)
        simp only [Act.put, List.getElem_toArray, List.getElem_cons_zero, List.getElem_cons_succ, List.setIfInBounds_toArray, List.set_cons_zero, List.set_cons_succ]
        refine wpAnyH_take (i := 3) (v := ?_) rfl (by kernel_rfl) (by kernel_rfl) (by kernel_rfl) (fun _ _ _ h => h) (Or.inl ⟨by kernel_rfl, ?_⟩) hHeld ?_
        rotate_left
        · intro w' hSw; (try dsimp only at hSw); go_simp
          all_goals (with_reducible rfl)
        simp only [Act.put, List.getElem_toArray, List.getElem_cons_zero, List.getElem_cons_succ, List.setIfInBounds_toArray, List.set_cons_zero, List.set_cons_succ]
        refine wpAnyH_take (i := 4) (v := ?_) rfl (by kernel_rfl) (by kernel_rfl) (by kernel_rfl) (fun _ _ _ h => h) (Or.inl ⟨by kernel_rfl, ?_⟩) hHeld ?_
        rotate_left
        · intro w' hSw; (try dsimp only at hSw); go_simp
          all_goals (with_reducible rfl)
        simp only [Act.put, List.getElem_toArray, List.getElem_cons_zero, List.getElem_cons_succ, List.setIfInBounds_toArray, List.set_cons_zero, List.set_cons_succ]
        refine wpAnyH_take (i := 5) (v := ?_) rfl (by kernel_rfl) (by kernel_rfl) (by kernel_rfl) (fun _ _ _ h => h) (Or.inl ⟨by kernel_rfl, ?_⟩) hHeld ?_
        rotate_left
        · intro w' hSw; (try dsimp only at hSw); go_simp
          all_goals (with_reducible rfl)
        simp only [Act.put, List.getElem_toArray, List.getElem_cons_zero, List.getElem_cons_succ, List.setIfInBounds_toArray, List.set_cons_zero, List.set_cons_succ]
        refine wpAnyH_take (i := 6) (v := ?_) rfl (by kernel_rfl) (by kernel_rfl) (by kernel_rfl) (fun _ _ _ h => h) (Or.inl ⟨by kernel_rfl, ?_⟩) hHeld ?_
        rotate_left
        · intro w' hSw; (try dsimp only at hSw); go_simp
          all_goals (with_reducible rfl)
        simp only [Act.put, List.getElem_toArray, List.getElem_cons_zero, List.getElem_cons_succ, List.setIfInBounds_toArray, List.set_cons_zero, List.set_cons_succ]
        refine wpAnyH_take (i := 7) (v := ?_) rfl (by kernel_rfl) (by kernel_rfl) (by kernel_rfl) (fun _ _ _ h => h) (Or.inl ⟨by kernel_rfl, ?_⟩) hHeld ?_
        rotate_left
        · intro w' hSw; (try dsimp only at hSw); go_simp
          all_goals (with_reducible rfl)
        simp only [Act.put, List.getElem_toArray, List.getElem_cons_zero, List.getElem_cons_succ, List.setIfInBounds_toArray, List.set_cons_zero, List.set_cons_succ]
        refine wpAnyH_ready (rs := [2]) (by kernel_rfl) (by simp) ?_
        refine AllReadyH.cons (o := _) rfl (fun K hK => ?_) AllReadyH.nil
        go_simp
        refine (ref_digits j wr.drew (by omega)).mono ?_
        rintro e w4 ⟨rfl, hs4⟩
        obtain ⟨D, hD⟩ : ∃ D, D = strOf (itoa j) := ⟨_, rfl⟩
        rw [← hD]
        have hs4r : Step [] id id wr w4 := Step.drew.tail hs4
        have hs4H := Lib.hid hs4r
        have hDH := Lib.hid hD
        clear hs4 hs4r hD
        go_wp2_with fail
        refine hK.out _ _ ?_ (fun hHeld => ?_)
        · exact hSH.out _ hs4H.out
        clear hK K
        refine wpAnyH_take (i := 8) (v := ?_) rfl (by kernel_rfl) (by kernel_rfl) (by kernel_rfl) (fun _ _ _ h => h) (Or.inl ⟨by kernel_rfl, ?_⟩) hHeld ?_
        rotate_left
        · intro w' hSw; (try dsimp only at hSw); go_simp
          all_goals (with_reducible rfl)
        simp only [Act.put, List.getElem_toArray, List.getElem_cons_zero, List.getElem_cons_succ, List.setIfInBounds_toArray, List.set_cons_zero, List.set_cons_succ]
        refine wpAnyH_ready (rs := [9]) (by kernel_rfl) (by simp) ?_
        refine AllReadyH.cons (o := _) rfl (fun K hK => ?_) AllReadyH.nil
        go_simp
        refine hK.out _ _ ?_ (fun hHeld => ?_)
        · exact hSH.out _ (hs4H.out.tail (Step.alloc _))
        clear hK K
        obtain ⟨i0, hi, hz0, hz1, hz2⟩ := info_split info_field
        have hsrc : Src (w4.alloc (.cells #[.string D, .int .i64 k1, .int .i64 n1, .string s1, .slice ba2 bn2 bc2, .slice fa2 fn2 fc2, .slice la2 ln2 lc2] 44)) 7 (.slice (some ⟨w4.heap.size, 0, none⟩) 1 1) 1 [.string D, .int .i64 k1, .int .i64 n1, .string s1, .slice ba2 bn2 bc2, .slice fa2 fn2 fc2, .slice la2 ln2 lc2] := by
          refine ⟨rfl, .inr ⟨_, 1, rfl, fun t u ht => ?_⟩⟩
          rw [addr_add, Nat.zero_add]
          exact cell_blk (heap_alloc_new w4 _) (by rw [← ht]; simp)
        have hs5 : Step [] id id wr (w4.alloc (.cells #[.string D, .int .i64 k1, .int .i64 n1, .string s1, .slice ba2 bn2 bc2, .slice fa2 fn2 fc2, .slice la2 ln2 lc2] 44)) := hs4H.out.tail (Step.alloc _)
        have hown5 := ownsRow_step hownH.out hs5 (fun k _ => by simp)
        refine wpAnyH_ready (rs := [10]) (by kernel_rfl) (by simp) ?_
        refine AllReadyH.cons (o := _) rfl (fun K hK => ?_) AllReadyH.nil
        refine wp_app (.tmp 147) (.tmp 156) 24 (by rfl) 44 i0 _ 7 120 Tryd.underlying24 hi hz0 hz1 hz2 rfl (by decide) (.slice va j vc) j xs (by rfl) hown5 (.slice (some ⟨w4.heap.size, 0, none⟩) 1 1) 1 [.string D, .int .i64 k1, .int .i64 n1, .string s1, .slice ba2 bn2 bc2, .slice fa2 fn2 fc2, .slice la2 ln2 lc2] (by rfl) hsrc (by intro u hu; rcases List.mem_cons.1 hu with rfl | hu; rfl; exact hxjH.out.ones u hu) (by omega) (by omega) ?_
        intro ad' c' w6 hown6 hgrow6 hnil6 hat6
        have hs6 : Step [] id id w2 w6 := (hstH.out.tail hs5).tailNew (.grown (T := (Value.slice va j vc).ownBlock.toList) hgrow6 (fun k hk => by simp [hk])) (fun r hr => .inr (hnewH.out r (by simpa using hr)))
        have hk6 : ∀ k, k < w2.heap.size → w6.heap[k]? = wr.heap[k]? := fun k hk => (hs6.keep k hk (by simp)).2.trans ((hstH.out.keep k hk (by simp)).2).symm
        have hS6 := hSH.out wr (Step.refl _ _ _)
        refine hK.out _ _ ?_ (fun hHeld => ?_)
        · have hc6 : ∀ (p : Addr) v, p.block < w2.heap.size → wr.cell? p = some v → w6.cell? p = some v := fun p v hp hv => (World.cell?_of_block (a := p) (hk6 p.block hp)).trans hv
          exact ⟨hc6 _ _ hVl2 v5, hc6 _ _ (by show lb < _; omega) q0, hc6 _ _ (by show lb < _; omega) q1, hc6 _ _ (by show lb < _; omega) q2, hc6 _ _ (by show lb < _; omega) q3, hc6 _ _ (by show lb < _; omega) q4, hc6 _ _ (by show lb < _; omega) q5⟩
        clear hK K
        refine wpAnyH_take (i := 11) (v := ?_) rfl (by kernel_rfl) (by kernel_rfl) (by kernel_rfl) (fun _ _ _ h => h) (Or.inl ⟨by kernel_rfl, ?_⟩) hHeld ?_
        rotate_left
        · intro w' hSw; (try dsimp only at hSw); go_simp
          all_goals (with_reducible rfl)
        simp only [Act.put, List.getElem_toArray, List.getElem_cons_zero, List.getElem_cons_succ, List.setIfInBounds_toArray, List.set_cons_zero, List.set_cons_succ]
        refine wpAnyH_done (by kernel_rfl) ?_ _
        have hs6H := Lib.hid hs6
        have hk6H := Lib.hid hk6
        have hown6H := Lib.hid hown6
        have hat6H := Lib.hid hat6
        have hs5H := Lib.hid hs5
        clear hs6 hk6 hown6 hat6 hs5 hown5 hsrc hi hz0 hz1 hz2 hgrow6 hnil6 hS6 v5 q0 q1 q2 q3 q4 q5 hHeld
        go_wp2_with fail
        go_roundw
        case rel =>
          refine ⟨j + 1, ad', c', _, by go_num, by omega, rfl, hown6H.out, ?_, ?_, hs6H.out⟩
          · rw [htkH.out]
            have h := (hrowH.out.keep (P2 := fun _ k => P k ∧ k < w.heap.size) (w' := w6) (fun _ _ h => h) (fun i k hP hk => hk6H.out k (by omega))).snoc (nm := itoa j) (y := l[j]) (by have := itoa_length 9 j (by omega); omega) rfl (hxjH.out.keep (fun _ h => h) (fun k hP hk => hk6H.out k (by omega)))
            rw [← hDH.out] at h
            exact h
          · intro k hk
            rcases hat6H.out with h | h
            · exact hnewH.out k (by rw [← h]; exact hk)
            · rw [h] at hk; cases hk
              have := hstH.out.size; have := hs4H.out.size
              rw [alloc_size]; omega
        case measure => simp [intOf]; omega
      · have hjl1 : ¬ (j : Int) < (ln : Int) := by omega
        obtain rfl : j = ln := by omega
        have htk : l.take j = l := List.take_of_length_le (by rw [← hlnH.out]; exact Nat.le_refl _)
        rw [htk] at hrow
        have hnl : (named 0 l).length = j := by rw [named_length, hlnH.out]
        have hfis := (hrow.is (Q := fun _ => True) (va := va) (vc := vc) (by rw [hnl]; exact hown) (fun _ _ _ => trivial) (fun _ _ => trivial)).1
        have hl0 : ∀ i, i < (named 0 l).length → i < l.length := fun i hi => by rw [named_length] at hi; exact hi
        have hc := Lib.hid (fields_step N ih (P := fun _ => True) (w := wr) (f := named 0 l) (fa := va) (fn := j) (fc := vc) (d := d + 1)
          (fun i hi => by rw [named_get 0 l i (hl0 i hi)]; exact hlsH.out i (hl0 i hi)) (by omega)
          (fun i hi => by
            have h1 := weightLs_getP l i (hl0 i hi)
            have h2 := itoa_length 9 i (by omega)
            have h3 := hwH.out
            rw [named_get 0 l i (hl0 i hi)]
            simp only [Nat.zero_add]
            omega)
          (by
            have h1 := enc_lenLs l 0 (by have := hwH.out; omega) (by have := hlnH.out; omega)
            have h2 := hwH.out
            rw [encFs_named]
            omega) (by omega) hnl.symm hfis)
        have hstH := Lib.hid hst
        clear htk hrow hown hnew hst hnl hfis hl0 hVr
        go_wp2_with fail
        refine hc.out.mono ?_
        rintro e w3 ⟨xa, xn, xc, rfl, hrow, hs3⟩
        have hrowH := Lib.hid hrow
        have hs3H := Lib.hid hs3
        clear hrow hs3 v5
        go_wp2_with fail
        go_ret2
        have ho : okV d (.mk 7 n s b f l) = okFs (d + 1) [] (named 0 l) := by
          rw [heH.out, ← hrH.out, decide_eq_true h32, okFs_named (d + 1) l 0 [] (fun x hx => by simp at hx) (by have := hlnH.out; omega)]; rfl
        refine ⟨xa, xn, xc, by rw [ho]; rfl, fun h => ?_, (h2wH.out.tail hstH.out).tail hs3H.out⟩
        rw [ho] at h
        obtain ⟨h1, h2⟩ := hrowH.out h
        rw [encFs_named] at h1
        rw [henH.out]
        exact ⟨h1.len, row_bin h1 (fun k hk => .inr (by have := h2 k hk; have := h2wH.out.size; have := hstH.out.size; omega))⟩
end Go.Proofs.YtbkmnhogfegmcaaDoor
