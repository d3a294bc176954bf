/- bson: the reader reads lists. -/
import Derived.Test.YtbkmnhogfegmcaaDoorBsG5
set_option linter.unusedVariables false
set_option linter.unusedSimpArgs false
namespace Go.Proofs.YtbkmnhogfegmcaaDoor
open Go.RowKit

theorem info_value : (Tryd.prog.info? 27).map (fun i => (i.zero, i.size, i.bytes)) = some (some (.agg #[.int .i64 0, .int .i64 0, .string ⟨#[]⟩, .slice none 0 0, .slice none 0 0, .slice none 0 0]), 6, 104) := by kernel_rfl

theorem ownsRow_other {w w' : World} {base V : Nat} {e : TypeId} {size n : Nat} {v : Value} {xs : List Value} (h : w.ownsRow base e size v n xs) (hg : w.grownBy w' (some V)) (hV : ∀ k, v.ownBlock = some k → k ≠ V) : w'.ownsRow base e size v n xs :=
  ⟨h.1, h.2.imp id (fun ⟨g, cap, cur, e1, e2, e3, r⟩ => ⟨g, cap, cur, e1, e2, (hg.block g (lt_of_block e3) (by simp; exact hV g (by rw [e1]; rfl))).trans e3, r⟩)⟩
theorem grown_past {w w1 w2 : World} {row r2 : Option Nat} (h1 : w.grownBy w1 row) (h2 : w1.grownBy w2 r2) (hr : ∀ k, r2 = some k → w.heap.size ≤ k ∨ row = some k) : w.grownBy w2 row :=
  ⟨h2.os.trans h1.os, h2.tape.trans h1.tape, h2.output.trans h1.output, Nat.le_trans h1.size h2.size, fun k hk hn =>
    (h2.block k (Nat.lt_of_lt_of_le hk h1.size) (fun e => by
      rcases hr k e.symm with h | h
      · omega
      · exact hn h.symm)).trans (h1.block k hk hn)⟩
/-- Each field's cells, chosen. -/
theorem FIs.choose {P : Nat → Prop} {w : World} {f : List (Bs × Val)} {a : Option Addr} (h : FIs P w f a 0) : ∃ C : Nat → List Value, ∀ i (hi : i < f.length), ∃ b o, a = some ⟨b, o, none⟩ ∧ P b ∧ w.rangeAt b (o + i * 7) (.string (strOf f[i].1) :: C i) ∧ VIs P w f[i].2 (C i) := by
  have hex : ∀ i, ∃ cs, ∀ (hi : i < f.length), ∃ b o, a = some ⟨b, o, none⟩ ∧ P b ∧ w.rangeAt b (o + i * 7) (.string (strOf f[i].1) :: cs) ∧ VIs P w f[i].2 cs := fun i => by
    by_cases hi : i < f.length
    · obtain ⟨b, o, cs, h1, h2, _, h3, h4⟩ := h.get hi
      rw [Nat.zero_add] at h3
      exact ⟨cs, fun _ => ⟨b, o, h1, h2, h3, h4⟩⟩
    · exact ⟨[], fun e => absurd e hi⟩
  exact Classical.axiomOfChoice hex

/-- A row of values that the call made reads as its items. -/
theorem LIs.row {P : Nat → Prop} {w w0 : World} {l : List Val} {C : Nat → List Value} {va : Option Addr} {vc : Nat} {B0 : Nat} (hC : ∀ i (hi : i < l.length), VIs P w l[i] (C i))
    (hown : w.ownsRow 0 27 6 (.slice va l.length vc) l.length ((List.range l.length).flatMap C)) (hnew : ∀ k, (Value.slice va l.length vc).ownBlock = some k → P k) : LIs P w l va 0 ∧ l.length ≤ vc ∧ (va = none → vc = 0) := by
  have hCl : ∀ i, i < l.length → (C i).length = 6 := fun i hi => (hC i hi).len
  rcases hown.2 with ⟨e, h0⟩ | ⟨g, cap, cur, e, hb, hgg, rest⟩
  · injection e with e1 e2 e3
    subst e1 e3
    refine ⟨LIs.of fun {i} hi => by omega, by omega, fun _ => rfl⟩
  · injection e with e1 e2 e3
    subst e1 e3
    refine ⟨LIs.of fun {i} hi => ⟨g, 0, C i, rfl, hnew g rfl, ?_, hC i hi⟩, rest.1, fun h => by cases h⟩
    intro t u ht
    have h7 : t < 6 := by
      rcases Nat.lt_or_ge t 6 with h | h
      · exact h
      · rw [List.getElem?_eq_none (by rw [hCl i hi]; exact h)] at ht; cases ht
    have h8 := World.ownsRow.cells hown (g := g) rfl (i * 6 + t) u (by
      rw [flat_get 6 C l.length (fun i hi => hCl i hi) i t hi h7]; exact ht)
    rw [addr_add] at h8
    simpa [Nat.add_assoc] using h8

set_option maxRecDepth 100000 in
set_option maxHeartbeats 4000000 in
theorem rd_list {P : Nat → Prop} {w : World} {R B o c a fuel deep : Nat} {b : Bs} (hF : RdF fuel) (hfu : 34 ≤ fuel + (deep + 1)) (hdp : deep + 1 ≤ 1000) (h : Rd w R B o c b a) (ht : Tabs P w) (hPR : ¬ P R) :
    Calls Tryd.prog 78 #[.pointer (some ⟨R, 0, none⟩), .int .i64 deep] w (DecP w R B o c b (decV b (fun items a => decDoc b fuel (deep + 1) items a) 4 a)) := by
  have hd : decV b (fun items a => decDoc b fuel (deep + 1) items a) 4 a = (decDoc b fuel (deep + 1) true a).bind fun f a => .ok (.list (f.map (·.2))) a := rfl
  rw [hd]
  clear hd
  have hle := h.le
  have hB := h.blt
  have hR := lt_of_block h.cell
  have hne : w.heap.size ≠ R := by omega
  have hsm := h.small
  have hd1 := Lib.hid (show (deep : Int) + 1 = ((deep + 1 : Nat) : Int) by push_cast; rfl)
  obtain ⟨W0, hW0⟩ : ∃ W0, W0 = w.alloc (.cells #[.int .i64 0, .int .i64 0, (.string ⟨#[]⟩), (.slice none 0 0), (.slice none 0 0), (.slice none 0 0)] 27) := ⟨_, rfl⟩
  obtain ⟨W1, hW1⟩ : ∃ W1, W1 = W0.alloc (.cells #[.int .i64 7, .int .i64 0, (.string ⟨#[]⟩), (.slice none 0 0), (.slice none 0 0), (.slice none 0 0)] 27) := ⟨_, rfl⟩
  have z0 : W0.heap.size = w.heap.size + 1 := by rw [hW0]; simp
  have z1 : W1.heap.size = w.heap.size + 1 + 1 := by rw [hW1]; simp [z0]
  have hV0 : W1.heap[w.heap.size]? = some (.cells #[.int .i64 0, .int .i64 0, (.string ⟨#[]⟩), (.slice none 0 0), (.slice none 0 0), (.slice none 0 0)] 27 (0, 0)) := by
    rw [hW1]; refine alloc_old ?_; rw [hW0]; exact heap_alloc_new w _
  have hV1 : W1.heap[w.heap.size + 1]? = some (.cells #[.int .i64 7, .int .i64 0, (.string ⟨#[]⟩), (.slice none 0 0), (.slice none 0 0), (.slice none 0 0)] 27 (0, 0)) := by
    rw [hW1, ← z0]; exact heap_alloc_new W0 _
  have hg1 : w.grownBy W1 none := by rw [hW1, hW0]; exact (World.grownBy_alloc w _ none).trans (World.grownBy_alloc _ _ none)
  have hs01 : Step [] id id w W1 := .grown hg1 (fun _ h => by cases h)
  have hs0H := Lib.hid (show Step [] id id W0 W1 by rw [hW1]; exact Step.alloc _)
  have hc := hF P W1 R B o c b a (deep + 1) true hfu hdp (h.step hs01) (ht.grown hg1) hPR
  have hWH0 := Lib.hid hW0
  have hWH1 := Lib.hid hW1
  have hV0H := Lib.hid hV0
  have hV1H := Lib.hid hV1
  have hs01H := Lib.hid hs01
  clear hV0 hV1 hW0 hW1 h ht hg1 hs01
  cases hr : decDoc b fuel (deep + 1) true a with
  | bad n =>
    rw [hr] at hc
    have hcH := Lib.hid hc
    simp only [Res.bind]
    clear hc hr z0 z1
    go_enter Tryd.func78, Tryd.ntmps78
    go_wp2_with (go_at_call 27; rw [hd1.out, ← hWH0.out, ← hWH1.out]; refine hcH.out.mono ?_; rintro e w1 ⟨hs1, rfl⟩; have hs1H := Lib.hid hs1; clear hs1)
    exact ⟨rfl, (hs01H.out.mono (fun _ h => by cases h)).tail hs1H.out, rfl⟩
  | ok f a' =>
    rw [hr] at hc
    have hfl := dec_len hr
    have hcH := Lib.hid hc
    simp only [Res.bind]
    clear hc hr
    obtain ⟨n, hn⟩ : ∃ n, n = f.length := ⟨_, rfl⟩
    have hnH := Lib.hid hn
    have hn6 : n ≤ 65536 := by omega
    clear hn
    go_enter Tryd.func78, Tryd.ntmps78
    go_wp2_with (go_at_call 27; rw [hd1.out, ← hWH0.out, ← hWH1.out]; refine hcH.out.mono ?_; rintro e w2 ⟨hs2, ad, cap, rfl, hFI, hcap, hnil, hr2⟩; rw [← hnH.out] at hcap ⊢; have hV02 := hs2.at hV0H.out (by simp; exact hne); have hV12 := hs2.at hV1H.out (by simp; omega); have hsz2 := hs2.size; have hV02H := Lib.hid hV02; have hV12H := Lib.hid hV12; have hs2H := Lib.hid hs2; have hFIH := Lib.hid hFI; have hr2H := Lib.hid hr2; have hcapH := Lib.hid hcap; have hnilH := Lib.hid hnil; clear hs2 hFI hr2 hV02 hV12 hcap hnil)
    obtain ⟨C, hC⟩ := hFIH.out.choose
    have hCH := Lib.hid hC
    have hCl : ∀ i, i < n → (C i).length = 6 := fun i hi => by
      obtain ⟨_, _, _, _, _, hv⟩ := hC i (by rw [← hnH.out]; exact hi)
      exact hv.len
    have hClH := Lib.hid hCl
    clear hC hCl
    go_loopw [14] (fun i wr => ∃ (j : Nat) (va : Option Addr) (vc : Nat), i = .int .i64 j ∧ j ≤ n ∧ wr.heap[w.heap.size + 1]? = some (.cells #[.int .i64 7, .int .i64 0, (.string ⟨#[]⟩), (.slice none 0 0), (.slice none 0 0), .slice va j vc] 27 (0, 0)) ∧ wr.ownsRow 0 27 6 (.slice va j vc) j ((List.range j).flatMap C) ∧ (∀ k, (Value.slice va j vc).ownBlock = some k → w2.heap.size ≤ k) ∧ w2.grownBy wr (some (w.heap.size + 1))) (fun i _ => n - (intOf i).toNat)
    case atStart => exact ⟨0, none, 0, rfl, Nat.zero_le _, hV12H.out, World.ownsRow_nil _ _ _ _, (fun _ h => by cases h), grown_refl _ _⟩
    case round =>
      obtain ⟨j, va, vc, rfl, hj, hV1r, hown, hnew, hgr⟩ := hrel
      have hgrH := Lib.hid hgr
      have hownH := Lib.hid hown
      have hnewH := Lib.hid hnew
      have hV1rH := Lib.hid hV1r
      by_cases hjl : j < n
      · have hjl1 : (j : Int) < (n : Int) := by omega
        have hj0 : (0 : Int) ≤ (j : Int) := by omega
        obtain ⟨bb, oo, hae, hPb, hrng, hv⟩ := hCH.out j (by rw [← hnH.out]; exact hjl)
        subst hae
        obtain ⟨s0, ba, bn, bc, fa, fn, fc, la2, ln, lc2, hcs, -⟩ := hv.six
        have h1c := hv.one
        have hbb := rangeAt_lt hrng (by simp)
        have hrng2 : wr.rangeAt bb (oo + j * 7) (.string (strOf (f[j]'(by rw [← hnH.out]; exact hjl)).1) :: C j) := rangeAt_keep hrng (hgr.block bb hbb (by simp; omega))
        obtain ⟨nms, hnms⟩ : ∃ k, k = strOf (f[j]'(by rw [← hnH.out]; exact hjl)).1 := ⟨_, rfl⟩
        obtain ⟨k0, hk0⟩ : ∃ k, k = (f[j]'(by rw [← hnH.out]; exact hjl)).2.kind := ⟨_, rfl⟩
        obtain ⟨n0, hn0⟩ : ∃ k, k = (f[j]'(by rw [← hnH.out]; exact hjl)).2.num := ⟨_, rfl⟩
        rw [← hk0, ← hn0] at hcs
        rw [hcs, ← hnms] at hrng2
        have q0 := hrng2 0 _ rfl
        have q1 := hrng2 1 _ rfl
        have q2 := hrng2 2 _ rfl
        have q3 := hrng2 3 _ rfl
        have q4 := hrng2 4 _ rfl
        have q5 := hrng2 5 _ rfl
        have q6 := hrng2 6 _ rfl
        rw [Nat.add_zero] at q0
        have hcsH := Lib.hid hcs
        have h1cH := Lib.hid h1c
        have v5 := cell_blk hV1r (i := 5) rfl
        have hV1lt := lt_of_block hV1r
        have hbblt : bb < wr.heap.size := Nat.lt_of_lt_of_le hbb hgr.size
        have hcl1 := hClH.out j hjl
        have hcl1H := Lib.hid hcl1
        obtain ⟨W3, hW3⟩ : ∃ W3, W3 = wr.alloc (.cells #[.string nms, .int .i64 k0, .int .i64 n0, .string s0, .slice ba bn bc, .slice fa fn fc, .slice la2 ln lc2] 44) := ⟨_, rfl⟩
        obtain ⟨W4, hW4⟩ : ∃ W4, W4 = W3.alloc (.cells #[.int .i64 k0, .int .i64 n0, .string s0, .slice ba bn bc, .slice fa fn fc, .slice la2 ln lc2] 27) := ⟨_, rfl⟩
        have z3 : W3.heap.size = wr.heap.size + 1 := by rw [hW3]; simp
        have hg34 : wr.grownBy W4 none := by rw [hW4, hW3]; exact (World.grownBy_alloc _ _ none).trans (World.grownBy_alloc _ _ none)
        have hsrc : Src W4 6 (.slice (some ⟨wr.heap.size + 1, 0, none⟩) 1 1) 1 (C j) := by
          refine ⟨by rw [hcl1], .inr ⟨_, 1, rfl, fun t u ht => ?_⟩⟩
          rw [hcs] at ht
          rw [addr_add, Nat.zero_add, hW4, ← z3]
          exact cell_blk (heap_alloc_new W3 _) (by rw [← ht]; simp)
        obtain ⟨i0, hi, hz0, hz1, hz2⟩ := info_split info_value
        have hiH := Lib.hid hi
        have hz0H := Lib.hid hz0
        have hz1H := Lib.hid hz1
        have hz2H := Lib.hid hz2
        have hsrcH := Lib.hid hsrc
        have hown4H := Lib.hid (ownsRow_grown hown hg34)
        have hV14 := (hg34.block _ (lt_of_block hV1r) (by simp)).trans hV1r
        have hV14H := Lib.hid hV14
        have hg34H := Lib.hid hg34
        have hwrap : IntKind.i64.wrap ((j : Int) + 1) = (j : Int) + 1 := IntWalk.i64_in _ (by omega)
        have hW3H := Lib.hid hW3
        have hW4H := Lib.hid hW4
        clear hrng hrng2 hv hcs hk0 hn0 hnms h1c hcl1 z3 hsrc hi hz0 hz1 hz2 hV14 hg34 hgr hown hnew hV1r hW3 hW4
        go_wp2_with (at_builtin; rw [← hW3H.out, ← hW4H.out]; refine wpList_app rfl _ _ 25 rfl 27 i0 _ 6 104 Tryd.underlying25 hiH.out hz0H.out hz1H.out hz2H.out rfl (by decide) (.slice va j vc) j ((List.range j).flatMap C) (by rfl) hown4H.out (.slice (some ⟨wr.heap.size + 1, 0, none⟩) 1 1) 1 (C j) (by rfl) hsrcH.out (by exact h1cH.out) (by omega) (by omega) ?_; intro ad' c' w5 hown5 hgrow5 hnil5 hat5; have hV15 := (hgrow5.block _ (lt_of_block hV14H.out) (fun e => by have h1 := hnewH.out _ e.symm; omega)).trans hV14H.out; have r5 := cell_blk hV15 (i := 5) rfl; have rf := free_blk hV15; have hV15H := Lib.hid hV15; have hown5H := Lib.hid hown5; have hgrow5H := Lib.hid hgrow5; have hat5H := Lib.hid hat5; clear hV15 hown5 hgrow5 hnil5 hat5)
        go_roundw
        case rel =>
          have hg6 : w5.grownBy (w5.setCell ⟨w.heap.size + 1, 5, none⟩ (.slice ad' (j + 1) c')) (some (w.heap.size + 1)) := ⟨rfl, rfl, rfl, by simp [World.setCell], fun k _ hk => Below.heap_setCell _ _ _ _ (fun e => hk (by rw [e]))⟩
          have hnew5 : ∀ k, (Value.slice ad' (j + 1) c').ownBlock = some k → w2.heap.size ≤ k := fun k hk => by
            rcases hat5H.out with h | h
            · exact hnewH.out k (by rw [← h]; exact hk)
            · rw [h] at hk; cases hk
              exact Nat.le_trans hgrH.out.size hg34H.out.size
          refine ⟨j + 1, ad', c', rfl, by omega, ?_, ?_, hnew5, ?_⟩
          · have := set_blk hV15H.out 5 (.slice ad' (j + 1) c')
            simpa using this
          · refine ownsRow_other ?_ hg6 (fun k hk => by have := hnew5 k hk; omega)
            have := hown5H.out
            rw [← flat_succ] at this; exact this
          · refine grown_past (grown_past (grown_past hgrH.out hg34H.out (fun k h => by cases h)) hgrow5H.out (fun k h => .inl (hnewH.out k h))) hg6 (fun k h => .inr h)
        case measure => simp [intOf]; omega
      · have hjl1 : ¬ (j : Int) < (n : Int) := by omega
        have hjn : j = n := by omega
        subst hjn
        have hV0r := (hgr.block _ (lt_of_block hV02H.out) (by simp)).trans hV02H.out
        have p0 := cell_blk hV0r (i := 0) rfl; have p1 := cell_blk hV0r (i := 1) rfl; have p2 := cell_blk hV0r (i := 2) rfl; have p3 := cell_blk hV0r (i := 3) rfl; have p4 := cell_blk hV0r (i := 4) rfl; have p5 := cell_blk hV0r (i := 5) rfl; have pf := free_blk hV0r
        have v0 := cell_blk hV1r (i := 0) rfl; have v1 := cell_blk hV1r (i := 1) rfl; have v2 := cell_blk hV1r (i := 2) rfl; have v3 := cell_blk hV1r (i := 3) rfl; have v4 := cell_blk hV1r (i := 4) rfl; have v5 := cell_blk hV1r (i := 5) rfl; have vf := free_blk hV1r
        have hV0rH := Lib.hid hV0r
        clear hV0r hV1r hgr hown hnew
        go_wp2_with fail
        change bodyPost _ _ _ _ _ (set6 wr w.heap.size (.int .i64 7) (.int .i64 0) (.string ⟨#[]⟩) (.slice none 0 0) (.slice none 0 0) (.slice va j vc))
        have hst : Step [R] id id (w.alloc (.cells #[.int .i64 0, .int .i64 0, (.string ⟨#[]⟩), (.slice none 0 0), (.slice none 0 0), (.slice none 0 0)] 27)) wr := by
          rw [← hWH0.out]
          refine ((hs0H.out.mono (fun _ h => by cases h)).tail hs2H.out).tailNew (T2 := [w.heap.size + 1]) (.grown hgrH.out (fun k hk => by cases hk; simp)) (by simp [z0])
        refine bodyPost_ret (results_cell4 rfl rfl (set6_heap hV0rH.out)) rfl (dec_fin hst (hr2H.out.kept hgrH.out (by omega) (by omega)) hne hB ?_)
        have hjn2 := hnH.out
        have hmap : (f.map (·.2)).length = j := by rw [List.length_map]; exact hjn2.symm
        have hrow := LIs.row (P := fun k => w.heap.size < k) (w := wr) (w0 := w) (l := f.map (·.2)) (C := C) (va := va) (vc := vc) (B0 := 0) (fun i hi => by
          obtain ⟨_, _, _, _, _, hv⟩ := hCH.out i (by rw [hmap, hjn2] at hi; exact hi)
          rw [List.getElem_map]
          exact hv.keep (fun k hk => by omega) (fun k hk hl => hgrH.out.block k hl (by simp; omega))) (by rw [hmap]; exact hownH.out) (fun k hk => by rw [hmap] at hk; have := hnewH.out k hk; omega)
        rw [hmap] at hrow
        obtain ⟨hLI, hvc, hvn⟩ := hrow
        refine VIs.mk ⟨.slice none 0 0, none, 0, va, vc, ?_, .inl ⟨none, 0, rfl, rfl, fun _ => rfl⟩, ⟨by simp [Val.list, Val.f], ?_, fun _ => rfl, hvn⟩, ⟨by simp [Val.list, Val.kind], by simp [Val.list, Val.kind], by simp [Val.list, Val.num], by simp [Val.list, Val.num]⟩, ⟨by simp [Val.list, Val.s], by simp [Val.list, Val.b], by simp [Val.list, Val.f], ?_⟩, by simp [Val.list, Val.f, FIs], hLI⟩
        · simp only [Val.list, Val.kind, Val.num, Val.s, Val.f, Val.l, hmap]; rfl
        · simp only [Val.list, Val.l, hmap]; exact hvc
        · simp only [Val.list, Val.l, hmap]; omega

/-- Whatever the kind. -/
theorem rd_value {P : Nat → Prop} {w : World} {R B o c a fuel deep : Nat} {b : Bs} {k : UInt8} (hF : RdF fuel) (hfu : 34 ≤ fuel + (deep + 1)) (hdp : deep + 1 ≤ 1000) (hk : known k = true) (h : Rd w R B o c b a) (ht : Tabs P w) (hPR : ¬ P R) :
    Calls Tryd.prog (wayF k) #[.pointer (some ⟨R, 0, none⟩), .int .i64 deep] w (DecP w R B o c b (decV b (fun items a => decDoc b fuel (deep + 1) items a) k a)) := by
  rcases known_cases hk with rfl | rfl | rfl | rfl | rfl | rfl | rfl | rfl | rfl | rfl | rfl | rfl | rfl | rfl
  · exact rd_least _ _ h
  · exact rd_null _ _ h
  · exact rd_int32 _ _ h
  · exact rd_int64 _ _ h
  · exact rd_text _ _ h ht hPR
  · exact rd_doc hF hfu hdp h ht hPR
  · exact rd_list hF hfu hdp h ht hPR
  · exact rd_raw _ _ h
  · exact rd_id _ _ h
  · exact rd_bool _ _ h
  · exact rd_date _ _ h
  · exact rd_greatest _ _ h
  · exact rd_double _ _ h
  · exact rd_decimal _ _ h
end Go.Proofs.YtbkmnhogfegmcaaDoor
