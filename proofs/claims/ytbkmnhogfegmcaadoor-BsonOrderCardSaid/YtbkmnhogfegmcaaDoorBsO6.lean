/- Without: a document without a field. With: a document with a field. -/
import Derived.Test.YtbkmnhogfegmcaaDoorBsO4
set_option linter.unusedVariables false
set_option linter.unusedSimpArgs false
namespace Go.Proofs.YtbkmnhogfegmcaaDoor
open Go.RowKit

/-- A value is answered: its blocks are P's or new. -/
def ValN (P : Nat → Prop) (y : Val) (w : World) (e : Ending) (w' : World) : Prop := ValP (fun k => P k ∨ w.heap.size ≤ k) y w e w'
theorem woV_same {x : Val} {nm : Bs} (h : atI x nm < 0) : woV x nm = x := by
  unfold woV
  unfold atI at h
  by_cases hk : x.kind = 6
  · rw [if_pos hk] at h ⊢
    unfold idxI at h
    cases hf : findN nm x.f with
    | none => rw [woF_none hf]; cases x; rfl
    | some i => rw [hf] at h; exact absurd h (by show ¬ (i : Int) < 0; omega)
  · rw [if_neg hk]
theorem own_len (va : Option Addr) (n m c : Nat) : (Value.slice va n c).ownBlock = (Value.slice va m c).ownBlock := by cases va <;> rfl
theorem woF_le (nm : Bs) (f : List (Bs × Val)) : (woF nm f).length ≤ f.length := List.length_filter_le _ _
/-- The value with another row of fields. -/
theorem VIs.fields {P Q : Nat → Prop} {w w' : World} {x : Val} {f : List (Bs × Val)} {k0 n0 : Int} {s0 : ByteArray} {ba la fa fa' : Option Addr} {bn bc fn fc ln lc fc' : Nat} {xs : List Value}
    (hx : VIs P w x [.int .i64 k0, .int .i64 n0, .string s0, .slice ba bn bc, .slice fa fn fc, .slice la ln lc]) (hs : ∀ k, P k → k < w.heap.size → w'.heap[k]? = w.heap[k]?) (hPQ : ∀ k, P k → Q k)
    (hown : w'.ownsRow 0 44 7 (.slice fa' f.length fc') f.length xs) (hrow : FRow (fun _ => Q) w' f xs) (hQ : ∀ k, (Value.slice fa' f.length fc').ownBlock = some k → Q k) (hl : f.length ≤ 140737488351232) :
    VIs Q w' (.mk x.kind x.num x.s x.b f x.l) [.int .i64 k0, .int .i64 n0, .string s0, .slice ba bn bc, .slice fa' f.length fc', .slice la ln lc] := by
  obtain ⟨bv, fa2, fc2, la2, lc2, hcs, hb, ⟨hfc, hlc, hfn, hln⟩, hk, ⟨h1, h2, h3, h4⟩, hf, hl2⟩ := hx.cells
  simp only [List.cons.injEq, and_true] at hcs
  obtain ⟨e1, e2, e3, e4, e5, e6⟩ := hcs
  injection e6 with e7 e8 e9
  subst e4 e7 e8 e9
  obtain ⟨f1, f2, f3⟩ := hrow.is (Q := Q) hown (fun _ _ h => h) hQ
  refine VIs.mk ⟨_, fa', fc', la, lc, ?_, hb.keep hPQ hs, ⟨f2, hlc, f3, hln⟩, hk, ⟨h1, h2, hl, h4⟩, f1, LIs.keep hPQ hs x.l la 0 hl2⟩
  show [Value.int .i64 k0, .int .i64 n0, .string s0, _, _, _] = [Value.int .i64 x.kind, .int .i64 x.num, .string (strOf x.s), _, .slice fa' f.length fc', .slice la x.l.length lc]
  rw [e1, e2, e3]
set_option maxRecDepth 100000 in
set_option maxHeartbeats 8000000 in
theorem bs_without {P : Nat → Prop} {x : Val} {cs : List Value} {w : World} {nm : Bs} {S : ByteArray} (hS : S = strOf nm) (hx : VIs P w x cs) (h3 : x.f.length ≤ 3000) : Calls Tryd.prog 43 #[.agg cs.toArray, .string S] w (ValN P (woV x nm) w) := by
  obtain ⟨bv, fa, fc, la, lc, hcs, hb, ⟨hfc, hlc, hfn, hln⟩, -, ⟨-, -, hf2, -⟩, hf, hl⟩ := hx.cells
  obtain ⟨ba, bc, rfl⟩ := hb.shape
  obtain ⟨n0, hn0⟩ : ∃ k, k = x.num := ⟨_, rfl⟩
  obtain ⟨k0, hk0⟩ : ∃ k, k = x.kind := ⟨_, rfl⟩
  obtain ⟨s0, hs0⟩ : ∃ k, k = strOf x.s := ⟨_, rfl⟩
  obtain ⟨bn, hbn⟩ : ∃ k, k = x.b.length := ⟨_, rfl⟩
  obtain ⟨ln, hlnn⟩ : ∃ k, k = x.l.length := ⟨_, rfl⟩
  obtain ⟨fn, hfnn⟩ : ∃ k, k = x.f.length := ⟨_, rfl⟩
  rw [← hk0, ← hn0, ← hs0, ← hbn, ← hlnn, ← hfnn] at hcs
  subst hcs
  have hcall := Lib.hid (fun (W : World) (hW : Step [] id id w W) => bs_at (P := P) hS (hx.keep (P2 := P) (w' := W) (fun _ h => h) (fun k hP hk => (hW.keep k hk (by simp)).2)))
  obtain ⟨W1, hW1⟩ : ∃ W1, W1 = w.alloc (.cells #[.int .i64 k0, .int .i64 n0, .string s0, .slice ba bn bc, .slice fa fn fc, .slice la ln lc] 27) := ⟨_, rfl⟩
  obtain ⟨W2, hW2⟩ : ∃ W2, W2 = W1.alloc (.cells #[.string S] 9) := ⟨_, rfl⟩
  obtain ⟨W3, hW3⟩ : ∃ W3, W3 = W2.alloc (.cells #[.int .i64 0, .int .i64 0, (.string ⟨#[]⟩), (.slice none 0 0), (.slice none 0 0), (.slice none 0 0)] 27) := ⟨_, rfl⟩
  have z1 : W1.heap.size = w.heap.size + 1 := by rw [hW1]; simp
  have z2 : W2.heap.size = w.heap.size + 1 + 1 := by rw [hW2, ← z1]; simp
  have hst3 : Step [] id id w W3 := by rw [hW3, hW2, hW1]; exact ((Step.alloc _).tail (Step.alloc _)).tail (Step.alloc _)
  have hV : W3.heap[w.heap.size]? = some (.cells #[.int .i64 k0, .int .i64 n0, .string s0, .slice ba bn bc, .slice fa fn fc, .slice la ln lc] 27 (0, 0)) := by rw [hW3]; refine alloc_old ?_; rw [hW2]; refine alloc_old ?_; rw [hW1]; exact heap_alloc_new w _
  have hN : W3.heap[w.heap.size + 1]? = some (.cells #[.string S] 9 (0, 0)) := by rw [hW3]; refine alloc_old ?_; rw [hW2, ← z1]; exact heap_alloc_new W1 _
  have hR : W3.heap[w.heap.size + 1 + 1]? = some ((.cells #[.int .i64 0, .int .i64 0, (.string ⟨#[]⟩), (.slice none 0 0), (.slice none 0 0), (.slice none 0 0)] 27)) := by rw [hW3, ← z2]; exact heap_alloc_new W2 _
  have hz3 : W3.heap.size = w.heap.size + 3 := by rw [hW3]; simp; omega
  have hxH := Lib.hid (VIs.below x _ hx)
  have hfH := Lib.hid (FIs.below x.f fa 0 hf)
  have hVH := Lib.hid hV
  have hNH := Lib.hid hN
  have hRH := Lib.hid hR
  have hst3H := Lib.hid hst3
  have hW1H := Lib.hid hW1
  have hW2H := Lib.hid hW2
  have hW3H := Lib.hid hW3
  have hk0H := Lib.hid hk0
  have hfnH := Lib.hid hfnn
  have hSH := Lib.hid hS
  have hz3H := Lib.hid hz3
  have hfc' : fn ≤ fc := by omega
  have hfn3 : fn ≤ 3000 := by omega
  have hfnz := Lib.hid hfn
  clear hx hf hl hb hn0 hk0 hs0 hbn hlnn hfnn hfc hlc hfn hln hS hV hN hR hst3 hW1 hW2 hW3 z1 z2 hz3
  go_enter Tryd.func43, Tryd.ntmps43
  go_wp2_with fail
  rw [← hW1H.out, ← hW2H.out, ← hW3H.out]
  refine (hcall.out _ hst3H.out).mono ?_
  rintro e w4 ⟨rfl, hs4⟩
  obtain ⟨r, hr⟩ : ∃ r, r = atI x nm := ⟨_, rfl⟩
  rw [← hr]
  have hV4 := hs4.at hVH.out (by simp)
  have hN4 := hs4.at hNH.out (by simp)
  have hR4 := hs4.at hRH.out (by simp)
  obtain ⟨v0, v1, v2, v3, v4, v5⟩ := cells_of6 hV4
  obtain ⟨r0, r1, r2, r3, r4, r5⟩ := cells_of6 hR4
  have fr := free_blk hR4
  have fr0 := fr 0
  have fr1 := fr 1
  have fr2 := fr 2
  have fr3 := fr 3
  have fr4 := fr 4
  have fr5 := fr 5
  have hVl : w.heap.size < w4.heap.size := lt_of_block hV4
  have hRl : w.heap.size + 1 + 1 < w4.heap.size := lt_of_block hR4
  have hs4H := Lib.hid hs4
  have hrH := Lib.hid hr
  have hR4H := Lib.hid hR4
  have hV4H := Lib.hid hV4
  have hN4H := Lib.hid hN4
  have hst4 := hst3H.out.tail hs4
  have hst4H := Lib.hid hst4
  clear hs4 hr hV4 hR4 hN4 fr hst4
  by_cases hneg : r < 0
  · have hneg1 : ¬ 0 ≤ r := by omega
    go_wp2_with fail
    change bodyPost _ _ _ _ _ (set6 w4 (w.heap.size + 1 + 1) (.int .i64 k0) (.int .i64 n0) (.string s0) (.slice ba bn bc) (.slice fa fn fc) (.slice la ln lc))
    refine bodyPost_ret (results_at rfl rfl (set6_heap hR4H.out)) rfl ?_
    rw [woV_same (by rw [← hrH.out]; exact hneg)]
    have hgf := set6_grown (w := w4) (V := w.heap.size + 1 + 1) (v0 := .int .i64 k0) (v1 := .int .i64 n0) (v2 := .string s0) (v3 := .slice ba bn bc) (v4 := .slice fa fn fc) (v5 := .slice la ln lc)
    have hsf := (hs4H.out.mono (T2 := [w.heap.size + 2]) (by simp)).tail (.grown hgf (fun k hk => by cases hk; simp))
    have hall := hst3H.out.tailNew hsf (fun r hr => .inr (by rw [List.mem_singleton] at hr; omega))
    exact ⟨_, rfl, hxH.out.keep (fun k h => .inl h.1) (fun k hP hk => (hall.keep k hk (by simp)).2), hall⟩
  · have hpos : 0 ≤ r := by omega
    obtain ⟨j, hrj⟩ : ∃ j : Nat, r = (j : Int) := ⟨r.toNat, by omega⟩
    obtain ⟨hj, -, hfd, hk6⟩ := getV_at (j := j) (by rw [← hrj]; exact hrH.out)
    have hclone := Lib.hid (clone_f (fc := fc) (hfH.out.keep (P2 := fun k => P k ∧ k < w.heap.size) (fun _ h => h) (fun k hP hk => (hst4H.out.keep k hk (by simp)).2) _ _ _) (by rw [← hfnH.out]; exact hfc') hfnz.out (by rw [← hfnH.out]; exact hfn3))
    rw [← hfnH.out] at hclone
    have hk6H := Lib.hid hk6
    clear hrj hfd hk6 hj
    go_wp2_with fail
    refine hclone.out.mono ?_
    rintro e w5 h
    obtain ⟨va, vc, xs, rfl, hown, hrow, hs5, hnew⟩ := h
    rw [← hfnH.out] at hown hnew ⊢
    have hz45 : w4.heap.size ≤ w5.heap.size := hs5.size
    have hV5 := hs5.at hV4H.out (by simp)
    have hN5 := hs5.at hN4H.out (by simp)
    have hR5 := hs5.at hR4H.out (by simp)
    have hdel := Lib.hid (delete_f (P := fun k => P k ∧ k < w.heap.size) (nm := nm) (V := w.heap.size + 1) hfnH.out hown hrow (fun k hk e => by have := hnew k e; have := hk.2; omega) hfn3 (fun e => by have := hnew _ e; omega) (by rw [← hSH.out]; exact cell_blk hN5 (i := 0) rfl))
    obtain ⟨v0, v1, v2, v3, v4, v5⟩ := cells_of6 hV5
    have fr := free_blk hV5 4
    have hVl5 : w.heap.size < w5.heap.size := lt_of_block hV5
    have hs5H := Lib.hid hs5
    have hV5H := Lib.hid hV5
    have hR5H := Lib.hid hR5
    have hnewH := Lib.hid hnew
    clear hown hrow hs5 hnew hV5 hN5 hR5 hclone r0 r1 r2 r3 r4 r5 fr0 fr1 fr2 fr3 fr4 fr5
    go_wp2_with fail
    refine hdel.out.mono ?_
    rintro e w6 ⟨us, rfl, hown, hrow, hs6⟩
    obtain ⟨m, hm⟩ : ∃ m, m = (woF nm x.f).length := ⟨_, rfl⟩
    rw [← hm] at hown ⊢
    rw [← hfnH.out] at hs6
    have hT : ∀ r ∈ (Value.slice va fn vc).ownBlock.toList, w4.heap.size ≤ r := fun r hr => hnewH.out r (by simpa using hr)
    have hV6 := hs6.at hV5H.out (by intro h; have h2 : w4.heap.size ≤ w.heap.size := hT _ h; omega)
    have hR6 := hs6.at hR5H.out (by intro h; have h2 : w4.heap.size ≤ w.heap.size + 1 + 1 := hT _ h; omega)
    obtain ⟨W7, hW7⟩ : ∃ W7, W7 = w6.setCell ⟨w.heap.size, 4, none⟩ (.slice va m vc) := ⟨_, rfl⟩
    have hV7 : W7.heap[w.heap.size]? = some (.cells #[.int .i64 k0, .int .i64 n0, .string s0, .slice ba bn bc, .slice va m vc, .slice la ln lc] 27 (0, 0)) := by rw [hW7]; exact set_blk hV6 4 _
    have hg67 : w6.grownBy W7 (some w.heap.size) := by rw [hW7]; exact setCell_grown _ _ _ _
    have hR7 := (hg67.block _ (lt_of_block hR6) (by intro e; injection e with e; omega)).trans hR6
    obtain ⟨u0, u1, u2, u3, u4, u5⟩ := cells_of6 hV6
    have fu := free_blk hV6 4
    have hVl6 : w.heap.size < w6.heap.size := lt_of_block hV6
    obtain ⟨r0, r1, r2, r3, r4, r5⟩ := cells_of6 hR6
    have frr := free_blk hR6
    have fr0 := frr 0
    have fr1 := frr 1
    have fr2 := frr 2
    have fr3 := frr 3
    have fr4 := frr 4
    have fr5 := frr 5
    have hownH := Lib.hid hown
    have hrowH := Lib.hid hrow
    have hs6H := Lib.hid hs6
    have hTH := Lib.hid hT
    have hW7H := Lib.hid hW7
    have hV7H := Lib.hid hV7
    have hR7H := Lib.hid hR7
    have hg67H := Lib.hid hg67
    have hmH := Lib.hid hm
    clear hown hrow hs6 hT hV6 hR6 hW7 hV7 hR7 hg67 hm v0 v1 v2 v3 v4 v5 fr hVl5 hdel frr
    go_wp2_with fail
    change bodyPost _ _ _ _ _ (set6 (w6.setCell ⟨w.heap.size, 4, none⟩ (.slice va m vc)) (w.heap.size + 1 + 1) (.int .i64 k0) (.int .i64 n0) (.string s0) (.slice ba bn bc) (.slice va m vc) (.slice la ln lc))
    rw [← hW7H.out]
    refine bodyPost_ret (results_at rfl rfl (set6_heap hR7H.out)) rfl ?_
    have hgf := set6_grown (w := W7) (V := w.heap.size + 1 + 1) (v0 := .int .i64 k0) (v1 := .int .i64 n0) (v2 := .string s0) (v3 := .slice ba bn bc) (v4 := .slice va m vc) (v5 := .slice la ln lc)
    obtain ⟨Wf, hWf⟩ : ∃ Wf, Wf = set6 W7 (w.heap.size + 1 + 1) (.int .i64 k0) (.int .i64 n0) (.string s0) (.slice ba bn bc) (.slice va m vc) (.slice la ln lc) := ⟨_, rfl⟩
    rw [← hWf] at hgf ⊢
    have hs45 := hst4H.out.tail hs5H.out
    have h46 : Step (w.heap.size :: (w.heap.size + 1 + 1) :: (Value.slice va fn vc).ownBlock.toList) id id w5 Wf :=
      ((hs6H.out.mono (fun r hr => by simp [hr])).tail (.grown hg67H.out (fun k hk => by cases hk; simp))).tail (.grown hgf (fun k hk => by cases hk; simp))
    have hall := hs45.tailNew h46 (fun r hr => .inr (by
      simp only [List.mem_cons] at hr
      rcases hr with h | h | h
      · omega
      · omega
      · have := hTH.out r h; omega))
    have e : woV x nm = .mk x.kind x.num x.s x.b (woF nm x.f) x.l := by unfold woV; rw [if_pos hk6H.out]
    rw [e]
    have hQ : ∀ k, (Value.slice va m vc).ownBlock = some k → w4.heap.size ≤ k := fun k hk => hTH.out k (by rw [own_len va fn m vc]; simpa using hk)
    have hown' := ownsRow_other (ownsRow_other hownH.out hg67H.out (fun k hk => by have := hQ k hk; omega)) hgf (fun k hk => by have := hQ k hk; omega)
    have hrow' := hrowH.out.keep (P2 := fun _ k => P k ∨ w.heap.size ≤ k) (w' := Wf) (fun _ k h => .inl h.1) (fun i k hP hk => (hgf.block k (by have := hg67H.out.size; omega) (by intro e; injection e with e; have := hP.2; omega)).trans (hg67H.out.block k hk (by intro e; injection e with e; have := hP.2; omega)))
    have hm2 := hmH.out
    subst hm2
    exact ⟨_, rfl, VIs.fields hxH.out (fun k hP hk => (hall.keep k hk (by simp)).2) (fun k h => .inl h.1) hown' hrow' (fun k hk => .inr (by have := hQ k hk; omega)) (by have := woF_le nm x.f; omega), hall⟩
end Go.Proofs.YtbkmnhogfegmcaaDoor
namespace Go.Proofs.YtbkmnhogfegmcaaDoor
open Go.RowKit

theorem withF_at {nm : Bs} {f : List (Bs × Val)} {y : Val} {j : Nat} (h : findN nm f = some j) : withF nm y f = f.set j (nm, y) := by unfold withF; rw [h]
theorem withF_none {nm : Bs} {f : List (Bs × Val)} {y : Val} (h : findN nm f = none) : withF nm y f = f ++ [(nm, y)] := by unfold withF; rw [h]
theorem atI_none {x : Val} {nm : Bs} (hk : x.kind = 6) (h : atI x nm < 0) : findN nm x.f = none := by
  unfold atI at h
  rw [if_pos hk] at h
  unfold idxI at h
  cases hf : findN nm x.f with
  | none => rfl
  | some i => rw [hf] at h; exact absurd h (by show ¬ (i : Int) < 0; omega)
set_option maxRecDepth 100000 in
set_option maxHeartbeats 8000000 in
theorem bs_with {P : Nat → Prop} {x y : Val} {cs ds : List Value} {w : World} {nm : Bs} {S : ByteArray} (hS : S = strOf nm) (hx : VIs P w x cs) (hy : VIs P w y ds) (h3 : x.f.length ≤ 2999) (hnm : nm.length ≤ 140737488351232) :
    Calls Tryd.prog 21 #[.agg cs.toArray, .string S, .agg ds.toArray] w (ValN P (withV x nm y) w) := by
  obtain ⟨bv, fa, fc, la, lc, hcs, hb, ⟨hfc, hlc, hfn, hln⟩, -, ⟨-, -, hf2, -⟩, hf, hl⟩ := hx.cells
  obtain ⟨ba, bc, rfl⟩ := hb.shape
  obtain ⟨n0, hn0⟩ : ∃ k, k = x.num := ⟨_, rfl⟩
  obtain ⟨k0, hk0⟩ : ∃ k, k = x.kind := ⟨_, rfl⟩
  obtain ⟨s0, hs0⟩ : ∃ k, k = strOf x.s := ⟨_, rfl⟩
  obtain ⟨bn, hbn⟩ : ∃ k, k = x.b.length := ⟨_, rfl⟩
  obtain ⟨ln, hlnn⟩ : ∃ k, k = x.l.length := ⟨_, rfl⟩
  obtain ⟨fn, hfnn⟩ : ∃ k, k = x.f.length := ⟨_, rfl⟩
  rw [← hk0, ← hn0, ← hs0, ← hbn, ← hlnn, ← hfnn] at hcs
  subst hcs
  obtain ⟨s1, ba1, bn1, bc1, fa1, fn1, fc1, la1, ln1, lc1, hds, -⟩ := hy.six
  obtain ⟨n1, hn1⟩ : ∃ k, k = y.num := ⟨_, rfl⟩
  obtain ⟨k1, hk1⟩ : ∃ k, k = y.kind := ⟨_, rfl⟩
  rw [← hk1, ← hn1] at hds
  subst hds
  obtain ⟨W1, hW1⟩ : ∃ W1, W1 = w.alloc (.cells #[.int .i64 k0, .int .i64 n0, .string s0, .slice ba bn bc, .slice fa fn fc, .slice la ln lc] 27) := ⟨_, rfl⟩
  obtain ⟨W2, hW2⟩ : ∃ W2, W2 = W1.alloc (.cells #[.int .i64 k1, .int .i64 n1, .string s1, .slice ba1 bn1 bc1, .slice fa1 fn1 fc1, .slice la1 ln1 lc1] 27) := ⟨_, rfl⟩
  obtain ⟨W3, hW3⟩ : ∃ W3, W3 = W2.alloc (.cells #[.int .i64 0, .int .i64 0, (.string ⟨#[]⟩), (.slice none 0 0), (.slice none 0 0), (.slice none 0 0)] 27) := ⟨_, rfl⟩
  have z1 : W1.heap.size = w.heap.size + 1 := by rw [hW1]; simp
  have z2 : W2.heap.size = w.heap.size + 1 + 1 := by rw [hW2, ← z1]; simp
  have hst3 : Step [] id id w W3 := by rw [hW3, hW2, hW1]; exact ((Step.alloc _).tail (Step.alloc _)).tail (Step.alloc _)
  have hV : W3.heap[w.heap.size]? = some (.cells #[.int .i64 k0, .int .i64 n0, .string s0, .slice ba bn bc, .slice fa fn fc, .slice la ln lc] 27 (0, 0)) := by rw [hW3]; refine alloc_old ?_; rw [hW2]; refine alloc_old ?_; rw [hW1]; exact heap_alloc_new w _
  have hY : W3.heap[w.heap.size + 1]? = some (.cells #[.int .i64 k1, .int .i64 n1, .string s1, .slice ba1 bn1 bc1, .slice fa1 fn1 fc1, .slice la1 ln1 lc1] 27 (0, 0)) := by rw [hW3]; refine alloc_old ?_; rw [hW2, ← z1]; exact heap_alloc_new W1 _
  have hR : W3.heap[w.heap.size + 1 + 1]? = some ((.cells #[.int .i64 0, .int .i64 0, (.string ⟨#[]⟩), (.slice none 0 0), (.slice none 0 0), (.slice none 0 0)] 27)) := by rw [hW3, ← z2]; exact heap_alloc_new W2 _
  have hz3 : W3.heap.size = w.heap.size + 3 := by rw [hW3]; simp; omega
  have hwo := Lib.hid (bs_without (P := fun k => P k ∧ k < w.heap.size) hS ((VIs.below x _ hx).keep (P2 := fun k => P k ∧ k < w.heap.size) (w' := W3) (fun _ h => h) (fun k hP hk => (hst3.keep k hk (by simp)).2)) (by omega))
  obtain ⟨v0, v1, v2, v3, v4, v5⟩ := cells_of6 hV
  obtain ⟨y0, y1, y2, y3, y4, y5⟩ := cells_of6 hY
  obtain ⟨r0, r1, r2, r3, r4, r5⟩ := cells_of6 hR
  have frr := free_blk hR
  have fr0 := frr 0
  have fr1 := frr 1
  have fr2 := frr 2
  have fr3 := frr 3
  have fr4 := frr 4
  have fr5 := frr 5
  clear frr
  have hVl : w.heap.size < W3.heap.size := lt_of_block hV
  have hYl : w.heap.size + 1 < W3.heap.size := lt_of_block hY
  have hRl : w.heap.size + 1 + 1 < W3.heap.size := lt_of_block hR
  have hxH := Lib.hid (VIs.below x _ hx)
  have hyH := Lib.hid (VIs.below y _ hy)
  have hfH := Lib.hid (FIs.below x.f fa 0 hf)
  have hVH := Lib.hid hV
  have hYH := Lib.hid hY
  have hRH := Lib.hid hR
  have hst3H := Lib.hid hst3
  have hW1H := Lib.hid hW1
  have hW2H := Lib.hid hW2
  have hW3H := Lib.hid hW3
  have hk0H := Lib.hid hk0
  have hk1H := Lib.hid hk1
  have hfnH := Lib.hid hfnn
  have hSH := Lib.hid hS
  have hz3H := Lib.hid hz3
  have z2H := Lib.hid z2
  have hfc' : fn ≤ fc := by omega
  have hfn3 : fn ≤ 2999 := by omega
  have hfnz := Lib.hid hfn
  clear hx hy hf hl hb hn0 hk0 hk1 hn1 hs0 hbn hlnn hfnn hfc hlc hfn hln hS hV hY hR hst3 hW1 hW2 hW3 z1 z2 hz3
  have hgf := fun (W : World) (v0 v1 v2 v3 v4 v5 : Value) => set6_grown (w := W) (V := w.heap.size + 1 + 1) (v0 := v0) (v1 := v1) (v2 := v2) (v3 := v3) (v4 := v4) (v5 := v5)
  have hgfH := Lib.hid hgf
  clear hgf
  by_cases hk : k0 = 6
  rotate_left
  · have hd : (k0 != 6) = true := by rw [bne_iff_ne]; exact hk
    have hkH := Lib.hid (show x.kind ≠ 6 by rw [← hk0H.out]; exact hk)
    clear hk
    go_enter Tryd.func21, Tryd.ntmps21
    go_wp2_with fail
    rw [← hW1H.out, ← hW2H.out]
    have hz2 : W2.heap.size = w.heap.size + 1 + 1 := z2H.out
    refine bodyPost_ret (results_at (V := w.heap.size + 1 + 1) rfl rfl (by rw [← hz2]; exact heap_alloc_new W2 _)) rfl ?_
    have hall : Step [] id id w (W2.alloc (.cells #[.int .i64 k0, .int .i64 n0, .string s0, .slice ba bn bc, .slice fa fn fc, .slice la ln lc] 27)) := by rw [hW2H.out, hW1H.out]; exact ((Step.alloc _).tail (Step.alloc _)).tail (Step.alloc _)
    have e : withV x nm y = x := by unfold withV; rw [if_pos hkH.out]
    rw [e]
    exact ⟨_, rfl, hxH.out.keep (fun k h => .inl h.1) (fun k hP hk => (hall.keep k hk (by simp)).2), hall⟩
  have hd : (k0 != 6) = false := by rw [bne_eq_false_iff_eq]; exact hk
  have hkH := Lib.hid (show x.kind = 6 by rw [← hk0H.out]; exact hk)
  clear hk
  by_cases hk : k1 = 0
  · have hd1 : (k1 == 0) = true := by rw [beq_iff_eq]; exact hk
    have hkyH := Lib.hid (show y.kind = 0 by rw [← hk1H.out]; exact hk)
    clear hk
    go_enter Tryd.func21, Tryd.ntmps21
    go_wp2_with fail
    rw [← hW1H.out, ← hW2H.out, ← hW3H.out]
    go_wp2_with fail
    refine hwo.out.mono ?_
    rintro e w4 ⟨es, rfl, hes, hs4⟩
    obtain ⟨s9, ba9, bn9, bc9, fa9, fn9, fc9, la9, ln9, lc9, he9, -⟩ := hes.six
    obtain ⟨n9, hn9⟩ : ∃ k, k = (woV x nm).num := ⟨_, rfl⟩
    obtain ⟨k9, hk9⟩ : ∃ k, k = (woV x nm).kind := ⟨_, rfl⟩
    rw [← hk9, ← hn9] at he9
    subst he9
    have hR4 := hs4.at hRH.out (by simp)
    clear r0 r1 r2 r3 r4 r5 fr0 fr1 fr2 fr3 fr4 fr5
    obtain ⟨r0, r1, r2, r3, r4, r5⟩ := cells_of6 hR4
    have frr := free_blk hR4
    have fr0 := frr 0
    have fr1 := frr 1
    have fr2 := frr 2
    have fr3 := frr 3
    have fr4 := frr 4
    have fr5 := frr 5
    clear frr
    have hRl4 : w.heap.size + 1 + 1 < w4.heap.size := lt_of_block hR4
    have hesH := Lib.hid hes
    have hs4H := Lib.hid hs4
    have hR4H := Lib.hid hR4
    clear hes hs4 hn9 hk9 hR4 v0 v1 v2 v3 v4 v5 y0 y1 y2 y3 y4 y5
    go_wp2_with fail
    change bodyPost _ _ _ _ _ (set6 w4 (w.heap.size + 1 + 1) (.int .i64 k9) (.int .i64 n9) (.string s9) (.slice ba9 bn9 bc9) (.slice fa9 fn9 fc9) (.slice la9 ln9 lc9))
    refine bodyPost_ret (results_at rfl rfl (set6_heap hR4H.out)) rfl ?_
    have hg9 := hgfH.out w4 (.int .i64 k9) (.int .i64 n9) (.string s9) (.slice ba9 bn9 bc9) (.slice fa9 fn9 fc9) (.slice la9 ln9 lc9)
    have hsf := (hs4H.out.mono (T2 := [w.heap.size + 1 + 1]) (by simp)).tail (.grown hg9 (fun k hk => by cases hk; simp))
    have hz := hst3H.out.size
    have hz3 := hz3H.out
    have hall := hst3H.out.tailNew hsf (fun r hr => .inr (by rw [List.mem_singleton] at hr; omega))
    have e : withV x nm y = woV x nm := by unfold withV; rw [if_neg (by simpa using hkH.out), if_pos hkyH.out]
    rw [e]
    have hes' : VIs (fun k => (P k ∧ k < w.heap.size) ∨ W3.heap.size ≤ k) w4 (woV x nm) _ := hesH.out
    exact ⟨_, rfl, hes'.keep (fun k h => h.imp (fun h => h.1) (fun h => by omega)) (fun k hP hk => hg9.block k hk (by
      intro e; injection e with e
      rcases hP with h | h
      · have := h.2; omega
      · omega)), hall⟩
  have hd1 : (k1 == 0) = false := by rw [beq_eq_false_iff_ne]; exact hk
  have hkyH := Lib.hid (show y.kind ≠ 0 by rw [← hk1H.out]; exact hk)
  clear hk hwo
  obtain ⟨W4, hW4⟩ : ∃ W4, W4 = W3.alloc (.cells #[.string S, .int .i64 k1, .int .i64 n1, .string s1, .slice ba1 bn1 bc1, .slice fa1 fn1 fc1, .slice la1 ln1 lc1] 44) := ⟨_, rfl⟩
  have hst4 : Step [] id id W3 W4 := by rw [hW4]; exact Step.alloc _
  have hF : W4.heap[w.heap.size + 3]? = some (.cells #[.string S, .int .i64 k1, .int .i64 n1, .string s1, .slice ba1 bn1 bc1, .slice fa1 fn1 fc1, .slice la1 ln1 lc1] 44 (0, 0)) := by rw [hW4, ← hz3H.out]; exact heap_alloc_new W3 _
  have hst4w := hst3H.out.tail hst4
  have hclone := Lib.hid (clone_f (w := W4) (fc := fc) (hfH.out.keep (P2 := fun k => P k ∧ k < w.heap.size) (fun _ h => h) (fun k hP hk => (hst4w.keep k hk (by simp)).2) _ _ _) (by rw [← hfnH.out]; exact hfc') hfnz.out (by rw [← hfnH.out]; omega))
  rw [← hfnH.out] at hclone
  have hW4H := Lib.hid hW4
  have hst4H := Lib.hid hst4
  have hst4wH := Lib.hid hst4w
  have hFH := Lib.hid hF
  have hV4 := Lib.hid (hst4.at hVH.out (by simp))
  have hR4 := Lib.hid (hst4.at hRH.out (by simp))
  have hz4 : W4.heap.size = w.heap.size + 4 := by rw [hW4]; simp [hz3H.out]
  have hz4H := Lib.hid hz4
  clear hW4 hst4 hst4w hF hz4 r0 r1 r2 r3 r4 r5 fr0 fr1 fr2 fr3 fr4 fr5
  go_enter Tryd.func21, Tryd.ntmps21
  go_wp2_with fail
  rw [← hW1H.out, ← hW2H.out, ← hW3H.out, ← hW4H.out]
  refine hclone.out.mono ?_
  rintro e w5 h
  obtain ⟨va, vc, xs, rfl, hown, hrow, hs5, hnew⟩ := h
  rw [← hfnH.out] at hown hnew ⊢
  have hz45 : W4.heap.size ≤ w5.heap.size := hs5.size
  have hV5 := hs5.at hV4.out (by simp)
  have hR5 := hs5.at hR4.out (by simp)
  have hF5 := hs5.at hFH.out (by simp)
  have hnew0 : ∀ k, (Value.slice va fn vc).ownBlock = some k → w.heap.size + 4 ≤ k := fun k hk => by have := hnew k hk; have := hz4H.out; omega
  obtain ⟨W6, hW6⟩ : ∃ W6, W6 = w5.setCell ⟨w.heap.size, 4, none⟩ (.slice va fn vc) := ⟨_, rfl⟩
  have hV6 : W6.heap[w.heap.size]? = some (.cells #[.int .i64 k0, .int .i64 n0, .string s0, .slice ba bn bc, .slice va fn vc, .slice la ln lc] 27 (0, 0)) := by rw [hW6]; exact set_blk hV5 4 _
  have hg56 : w5.grownBy W6 (some w.heap.size) := by rw [hW6]; exact setCell_grown _ _ _ _
  have hR6 := (hg56.block _ (lt_of_block hR5) (by intro e; injection e with e; omega)).trans hR5
  have hF6 := (hg56.block _ (lt_of_block hF5) (by intro e; injection e with e; omega)).trans hF5
  have hst6 : Step [] id id w W6 := (hst4wH.out.tail hs5).tailNew (Step.grown (T := [w.heap.size]) hg56 (fun k hk => by cases hk; simp)) (fun r hr => .inr (by rw [List.mem_singleton] at hr; omega))
  have hown6 := ownsRow_other hown hg56 (fun k hk => by have := hnew0 k hk; omega)
  have hrow6 := hrow.keep (P2 := fun _ k => P k ∧ k < w.heap.size) (w' := W6) (fun _ k h => h) (fun i k hP hk => hg56.block k hk (by intro e; injection e with e; have := hP.2; omega))
  obtain ⟨v0, v1, v2, v3, v4, v5⟩ := cells_of6 hV5
  have fr := free_blk hV5 4
  have hVl5 : w.heap.size < w5.heap.size := lt_of_block hV5
  have hx6 : VIs (fun k => P k ∨ w.heap.size + 4 ≤ k) W6 x [.int .i64 k0, .int .i64 n0, .string s0, .slice ba bn bc, .slice va fn vc, .slice la ln lc] := by
    have h1 := VIs.fields (Q := fun k => P k ∨ w.heap.size + 4 ≤ k) (w' := W6) (f := x.f) (fa' := va) (fc' := vc) (xs := xs) hxH.out (fun k hP hk => (hst6.keep k hk (by simp)).2) (fun k h => .inl h.1) (by rw [← hfnH.out]; exact hown6) (hrow6.keep (fun _ k h => .inl h.1) (fun _ _ _ _ => rfl)) (fun k hk => .inr (hnew0 k (by rw [hfnH.out]; exact hk))) hf2
    rw [← hfnH.out] at h1
    have e : Val.mk x.kind x.num x.s x.b x.f x.l = x := by cases x; rfl
    rw [e] at h1
    exact h1
  have hatc := Lib.hid (bs_at hSH.out hx6)
  have hnewH := Lib.hid hnew0
  have hown6H := Lib.hid hown6
  have hrow6H := Lib.hid hrow6
  have hV6H := Lib.hid hV6
  have hR6H := Lib.hid hR6
  have hF6H := Lib.hid hF6
  have hW6H := Lib.hid hW6
  have hst6H := Lib.hid hst6
  have hx6H := Lib.hid hx6
  have hz6 : w.heap.size + 4 ≤ W6.heap.size := by have := hg56.size; have := hz4H.out; omega
  clear hown hrow hs5 hnew hnew0 hV5 hR5 hF5 hW6 hV6 hg56 hR6 hF6 hst6 hown6 hrow6 hx6 hclone
  go_wp2_with fail
  rw [← hW6H.out]
  refine hatc.out.mono ?_
  rintro e w7 ⟨rfl, hs7⟩
  obtain ⟨r, hr⟩ : ∃ r, r = atI x nm := ⟨_, rfl⟩
  rw [← hr]
  have hV7 := hs7.at hV6H.out (by simp)
  have hR7 := hs7.at hR6H.out (by simp)
  have hF7 := hs7.at hF6H.out (by simp)
  have hown7 := ownsRow_step hown6H.out hs7 (fun k _ => by simp)
  have hrow7 := hrow6H.out.keep (P2 := fun _ k => P k ∧ k < w.heap.size) (w' := w7) (fun _ k h => h) (fun i k hP hk => (hs7.keep k hk (by simp)).2)
  have hst7 := hst6H.out.tail hs7
  have hz67 := hs7.size
  have hVl7 : w.heap.size < w7.heap.size := lt_of_block hV7
  have hRl7 : w.heap.size + 1 + 1 < w7.heap.size := lt_of_block hR7
  have hFl7 : w.heap.size + 3 < w7.heap.size := lt_of_block hF7
  clear v0 v1 v2 v3 v4 v5 fr hVl5
  obtain ⟨v0, v1, v2, v3, v4, v5⟩ := cells_of6 hV7
  obtain ⟨f0, f1, f2, f3, f4, f5, f6⟩ := cells_of7 hF7
  have hrH := Lib.hid hr
  have hV7H := Lib.hid hV7
  have hR7H := Lib.hid hR7
  have hown7H := Lib.hid hown7
  have hrow7H := Lib.hid hrow7
  have hst7H := Lib.hid hst7
  have hyr := Lib.hid (hyH.out.keep (P2 := fun k => P k ∧ k < w.heap.size) (w' := w7) (fun _ h => h) (fun k hP hk => (hst7.keep k hk (by simp)).2))
  by_cases hneg : r < 0
  · have hneg1 : ¬ 0 ≤ r := by omega
    obtain ⟨W8, hW8⟩ : ∃ W8, W8 = w7.alloc (.cells #[.string S, .int .i64 k1, .int .i64 n1, .string s1, .slice ba1 bn1 bc1, .slice fa1 fn1 fc1, .slice la1 ln1 lc1] 44) := ⟨_, rfl⟩
    have hst8 : Step [] id id w7 W8 := by rw [hW8]; exact Step.alloc _
    have hsrc : Src W8 7 (.slice (some ⟨w7.heap.size, 0, none⟩) 1 1) 1 [.string S, .int .i64 k1, .int .i64 n1, .string s1, .slice ba1 bn1 bc1, .slice fa1 fn1 fc1, .slice la1 ln1 lc1] := by
      refine ⟨rfl, .inr ⟨_, 1, rfl, fun t u ht => ?_⟩⟩
      rw [addr_add, Nat.zero_add, hW8]
      exact cell_blk (heap_alloc_new w7 _) (by rw [← ht]; simp)
    have hV8 := hst8.at hV7 (by simp)
    have hR8 := hst8.at hR7 (by simp)
    have hown8 : W8.ownsRow 0 44 7 (.slice va fn vc) fn xs := ownsRow_step hown7 hst8 (fun k _ => by simp)
    have hone : ∀ u ∈ [Value.string S, .int .i64 k1, .int .i64 n1, .string s1, .slice ba1 bn1 bc1, .slice fa1 fn1 fc1, .slice la1 ln1 lc1], u.oneCell' = true := by
      intro u hu
      rcases List.mem_cons.1 hu with rfl | hu
      · rfl
      · exact hyH.out.ones u hu
    obtain ⟨i0, hi, hi0, hi1, hi2⟩ := info_split info_field
    have hiH := Lib.hid hi
    have hi0H := Lib.hid hi0
    have hi1H := Lib.hid hi1
    have hi2H := Lib.hid hi2
    have hW8H := Lib.hid hW8
    have hst8H := Lib.hid hst8
    have hsrcH := Lib.hid hsrc
    have hV8H := Lib.hid hV8
    have hR8H := Lib.hid hR8
    have hown8H := Lib.hid hown8
    have honeH := Lib.hid hone
    clear hs7 hr hV7 hR7 hF7 hown7 hrow7 hst7 hW8 hst8 hsrc hV8 hR8 hown8 hone hi hi0 hi1 hi2
    go_wp2_with (at_builtin; rw [← hW8H.out]; refine wpList_app rfl _ _ 24 rfl 44 i0 _ 7 120 Tryd.underlying24 hiH.out hi0H.out hi1H.out hi2H.out rfl (by decide) (.slice va fn vc) fn xs (by rfl) hown8H.out (.slice (some ⟨w7.heap.size, 0, none⟩) 1 1) 1 [.string S, .int .i64 k1, .int .i64 n1, .string s1, .slice ba1 bn1 bc1, .slice fa1 fn1 fc1, .slice la1 ln1 lc1] (by rfl) hsrcH.out (by exact honeH.out) (by omega) (by omega) ?_; intro ad' c' w9 hown9 hgrow9 hnil9 hat9; have hV9 := (hgrow9.block _ (lt_of_block hV8H.out) (fun e => by have h1 := hnewH.out _ e.symm; omega)).trans hV8H.out; have hR9 := (hgrow9.block _ (lt_of_block hR8H.out) (fun e => by have h1 := hnewH.out _ e.symm; omega)).trans hR8H.out; clear v0 v1 v2 v3 v4 v5; obtain ⟨v0, v1, v2, v3, v4, v5⟩ := cells_of6 hV9; have fr := free_blk hV9 4; obtain ⟨r0, r1, r2, r3, r4, r5⟩ := cells_of6 hR9; have frr := free_blk hR9; have fr0 := frr 0; have fr1 := frr 1; have fr2 := frr 2; have fr3 := frr 3; have fr4 := frr 4; have fr5 := frr 5; have hVl9 := lt_of_block hV9; have hRl9 := lt_of_block hR9; clear frr; have hV9H := Lib.hid hV9; have hR9H := Lib.hid hR9; have hown9H := Lib.hid hown9; have hgrow9H := Lib.hid hgrow9; have hat9H := Lib.hid hat9; clear hV9 hR9 hown9 hgrow9 hnil9 hat9)
    change bodyPost _ _ _ _ _ (set6 (w9.setCell ⟨w.heap.size, 4, none⟩ (.slice ad' (fn + 1) c')) (w.heap.size + 1 + 1) (.int .i64 k0) (.int .i64 n0) (.string s0) (.slice ba bn bc) (.slice ad' (fn + 1) c') (.slice la ln lc))
    obtain ⟨W10, hW10⟩ : ∃ W10, W10 = w9.setCell ⟨w.heap.size, 4, none⟩ (.slice ad' (fn + 1) c') := ⟨_, rfl⟩
    have hg10 : w9.grownBy W10 (some w.heap.size) := by rw [hW10]; exact setCell_grown _ _ _ _
    rw [← hW10]
    have hR10 := (hg10.block _ (lt_of_block hR9H.out) (by intro e; injection e with e; omega)).trans hR9H.out
    refine bodyPost_ret (results_at rfl rfl (set6_heap hR10)) rfl ?_
    have hgf := hgfH.out W10 (.int .i64 k0) (.int .i64 n0) (.string s0) (.slice ba bn bc) (.slice ad' (fn + 1) c') (.slice la ln lc)
    obtain ⟨Wf, hWf⟩ : ∃ Wf, Wf = set6 W10 (w.heap.size + 1 + 1) (.int .i64 k0) (.int .i64 n0) (.string s0) (.slice ba bn bc) (.slice ad' (fn + 1) c') (.slice la ln lc) := ⟨_, rfl⟩
    rw [← hWf] at hgf ⊢
    have hst8w : Step [] id id w W8 := hst7H.out.tail hst8H.out
    have h8f : Step (w.heap.size :: (w.heap.size + 1 + 1) :: (Value.slice va fn vc).ownBlock.toList) id id W8 Wf :=
      ((Step.grown hgrow9H.out (fun k hk => by simp [hk])).tail (.grown hg10 (fun k hk => by cases hk; simp))).tail (.grown hgf (fun k hk => by cases hk; simp))
    have hall := hst8w.tailNew h8f (fun r hr => .inr (by
      simp only [List.mem_cons] at hr
      rcases hr with h | h | h
      · omega
      · omega
      · have := hnewH.out r (by simpa using h); omega))
    have hkeep : ∀ k, k < w.heap.size → Wf.heap[k]? = w7.heap[k]? := fun k hk => by
      have h1 := (hst8H.out.keep k (by omega) (by simp)).2
      have h2 := (h8f.keep k (by have := hst8w.size; omega) (by
        intro hm
        simp only [List.mem_cons] at hm
        rcases hm with h | h | h
        · simp at h; omega
        · simp at h; omega
        · have := hnewH.out k (by simpa using h); omega)).2
      exact h2.trans h1
    have hQ : ∀ k, (Value.slice ad' (fn + 1) c').ownBlock = some k → w.heap.size + 4 ≤ k := fun k hk => by
      rcases hat9H.out with h | h
      · exact hnewH.out k (by rw [← h]; exact hk)
      · rw [h] at hk; cases hk; have := hst8H.out.size; omega
    have e : withV x nm y = .mk x.kind x.num x.s x.b (x.f ++ [(nm, y)]) x.l := by
      unfold withV
      rw [if_neg (by simpa using hkH.out), if_neg hkyH.out, withF_none (atI_none hkH.out (by rw [← hrH.out]; exact hneg))]
    rw [e]
    have hlen : (x.f ++ [(nm, y)]).length = fn + 1 := by rw [List.length_append, hfnH.out]; rfl
    have hown' := ownsRow_other (ownsRow_other hown9H.out hg10 (fun k hk => by have := hQ k hk; omega)) hgf (fun k hk => by have := hQ k hk; omega)
    have hrow' := ((hrow7H.out.keep (P2 := fun _ k => P k ∧ k < w.heap.size) (w' := Wf) (fun _ k h => h) (fun i k hP hk => hkeep k hP.2)).snoc hnm rfl (hyr.out.keep (fun _ h => h) (fun k hP hk => hkeep k hP.2))).keep (P2 := fun _ k => P k ∨ w.heap.size ≤ k) (w' := Wf) (fun _ k h => .inl h.1) (fun _ _ _ _ => rfl)
    rw [← hSH.out] at hrow'
    have hfin := VIs.fields (Q := fun k => P k ∨ w.heap.size ≤ k) (f := x.f ++ [(nm, y)]) (fa' := ad') (fc' := c') hxH.out (fun k hP hk => (hall.keep k hk (by simp)).2) (fun k h => .inl h.1) (by rw [hlen]; exact hown') hrow' (fun k hk => .inr (by have := hQ k (by rw [← hlen]; exact hk); omega)) (by rw [hlen]; omega)
    rw [hlen] at hfin
    exact ⟨_, rfl, hfin, hall⟩
  · have hpos : 0 ≤ r := by omega
    obtain ⟨j, hrj⟩ : ∃ j : Nat, r = (j : Int) := ⟨r.toNat, by omega⟩
    obtain ⟨hj, -, hfd, -⟩ := getV_at (j := j) (by rw [← hrj]; exact hr)
    have hjf : j < fn := by rw [hfnH.out]; exact hj
    obtain ⟨g, hva⟩ : ∃ g, va = some ⟨g, 0, none⟩ := by
      rcases hown7.2 with ⟨e, -⟩ | ⟨g, cap, cur, e, -⟩
      · injection e with _ e2 _; omega
      · injection e with e1 _ _; exact ⟨g, e1⟩
    subst hva hrj
    have hg4 : w.heap.size + 4 ≤ g := hnewH.out g rfl
    have hgw : g < w7.heap.size := (World.ownsRow.lt hown7 g rfl).2
    have hfz := World.ownsRow.frozenAt hown7
    have hul : xs.length = fn * 7 := hown7.1
    have hpr : ∀ t, t < 7 → ∃ u, w7.cell? ⟨g, j * 7 + t, none⟩ = some u := fun t ht => by
      have h8 := World.ownsRow.cells hown7 (g := g) rfl (j * 7 + t) (xs[j * 7 + t]'(by omega)) (List.getElem?_eq_getElem _)
      rw [addr_add, Nat.zero_add] at h8
      exact ⟨_, h8⟩
    obtain ⟨u0, p0⟩ := hpr 0 (by omega)
    obtain ⟨u1, p1⟩ := hpr 1 (by omega)
    obtain ⟨u2, p2⟩ := hpr 2 (by omega)
    obtain ⟨u3, p3⟩ := hpr 3 (by omega)
    obtain ⟨u4, p4⟩ := hpr 4 (by omega)
    obtain ⟨u5, p5⟩ := hpr 5 (by omega)
    obtain ⟨u6, p6⟩ := hpr 6 (by omega)
    have fz0 := hfz (j * 7)
    have fz1 := hfz (j * 7 + 1)
    have fz2 := hfz (j * 7 + 2)
    have fz3 := hfz (j * 7 + 3)
    have fz4 := hfz (j * 7 + 4)
    have fz5 := hfz (j * 7 + 5)
    have fz6 := hfz (j * 7 + 6)
    rw [Nat.add_zero] at p0
    have hjf1 : (j : Int) < (fn : Int) := by omega
    have hgV : w.heap.size ≠ g := by omega
    have hgR : w.heap.size + 1 + 1 ≠ g := by omega
    have hgV' : g ≠ w.heap.size := by omega
    have hgR' : g ≠ w.heap.size + 1 + 1 := by omega
    obtain ⟨r0, r1, r2, r3, r4, r5⟩ := cells_of6 hR7
    have frr := free_blk hR7
    have fr0 := frr 0
    have fr1 := frr 1
    have fr2 := frr 2
    have fr3 := frr 3
    have fr4 := frr 4
    have fr5 := frr 5
    clear frr
    have hfdH := Lib.hid hfd
    clear hs7 hr hV7 hR7 hF7 hown7 hrow7 hst7 hfz hul hpr hfd
    go_wp2_with fail
    change bodyPost _ _ _ _ _ (set6 (w7.setCells g (j * 7) [.string S, .int .i64 k1, .int .i64 n1, .string s1, .slice ba1 bn1 bc1, .slice fa1 fn1 fc1, .slice la1 ln1 lc1]) (w.heap.size + 1 + 1) (.int .i64 k0) (.int .i64 n0) (.string s0) (.slice ba bn bc) (.slice (some ⟨g, 0, none⟩) fn vc) (.slice la ln lc))
    obtain ⟨hown10, hg10⟩ := setCells_row [.string S, .int .i64 k1, .int .i64 n1, .string s1, .slice ba1 bn1 bc1, .slice fa1 fn1 fc1, .slice la1 ln1 lc1] (j * 7) w7 xs hown7H.out
    obtain ⟨W10, hW10⟩ : ∃ W10, W10 = w7.setCells g (j * 7) [.string S, .int .i64 k1, .int .i64 n1, .string s1, .slice ba1 bn1 bc1, .slice fa1 fn1 fc1, .slice la1 ln1 lc1] := ⟨_, rfl⟩
    rw [← hW10] at hown10 hg10 ⊢
    have hR10 := (hg10.block _ (lt_of_block hR7H.out) (by intro e; injection e with e; omega)).trans hR7H.out
    refine bodyPost_ret (results_at rfl rfl (set6_heap hR10)) rfl ?_
    have hgf := hgfH.out W10 (.int .i64 k0) (.int .i64 n0) (.string s0) (.slice ba bn bc) (.slice (some ⟨g, 0, none⟩) fn vc) (.slice la ln lc)
    obtain ⟨Wf, hWf⟩ : ∃ Wf, Wf = set6 W10 (w.heap.size + 1 + 1) (.int .i64 k0) (.int .i64 n0) (.string s0) (.slice ba bn bc) (.slice (some ⟨g, 0, none⟩) fn vc) (.slice la ln lc) := ⟨_, rfl⟩
    rw [← hWf] at hgf ⊢
    have h7f : Step [g, w.heap.size + 1 + 1] id id w7 Wf := (Step.grown hg10 (fun k hk => by cases hk; simp)).tail (.grown hgf (fun k hk => by cases hk; simp))
    have hall := hst7H.out.tailNew h7f (fun r hr => .inr (by
      simp only [List.mem_cons, List.mem_nil_iff, or_false] at hr
      rcases hr with h | h <;> omega))
    have hkeep : ∀ k, k < w.heap.size → Wf.heap[k]? = w7.heap[k]? := fun k hk => (h7f.keep k (by omega) (by simp; omega)).2
    have e : withV x nm y = .mk x.kind x.num x.s x.b (x.f.set j (nm, y)) x.l := by
      unfold withV
      rw [if_neg (by simpa using hkH.out), if_neg hkyH.out, withF_at hfdH.out]
    rw [e]
    have hlen : (x.f.set j (nm, y)).length = fn := by rw [List.length_set, hfnH.out]
    have hown' := ownsRow_other hown10 hgf (fun k hk => by cases hk; omega)
    have hrow' := ((hrow7H.out.keep (P2 := fun _ k => P k ∧ k < w.heap.size) (w' := Wf) (fun _ k h => h) (fun i k hP hk => hkeep k hP.2)).set hj hnm rfl (hyr.out.keep (fun _ h => h) (fun k hP hk => hkeep k hP.2))).keep (P2 := fun _ k => P k ∨ w.heap.size ≤ k) (w' := Wf) (fun _ k h => .inl h.1) (fun _ _ _ _ => rfl)
    rw [← hSH.out] at hrow'
    have hfin := VIs.fields (Q := fun k => P k ∨ w.heap.size ≤ k) (f := x.f.set j (nm, y)) (fa' := some ⟨g, 0, none⟩) (fc' := vc) hxH.out (fun k hP hk => (hall.keep k hk (by simp)).2) (fun k h => .inl h.1) (by rw [hlen]; exact hown') hrow' (fun k hk => .inr (by have e : g = k := (by simpa [Value.ownBlock] using hk); omega)) (by rw [hlen]; omega)
    rw [hlen] at hfin
    exact ⟨_, rfl, hfin, hall⟩
end Go.Proofs.YtbkmnhogfegmcaaDoor
