/- The reference's reader: texts. The reference's reader: bytes. -/
import Derived.Test.YtbkmnhogfegmcaaDoorBsQ3
import Derived.Test.YtbkmnhogfegmcaaDoorBsP3
import Derived.Test.YtbkmnhogfegmcaaDoorBsC5
import Derived.Test.YtbkmnhogfegmcaaDoorBsG7
set_option linter.unusedVariables false
set_option linter.unusedSimpArgs false
namespace Go.Proofs.YtbkmnhogfegmcaaDoor
open Go.RowKit

theorem results_to {fn : Func} {tmps : Array Value} {w : World} {S V : Nat} {v0 v1 v2 v3 v4 v5 : Value} {t : TypeId} (hfn : fn.results = #[.cell S 27]) (ht : tmps.getD S undef = .pointer (some ⟨V, 0, none⟩)) (hb : w.heap[V]? = some (.cells #[v0, v1, v2, v3, v4, v5] t (0, 0))) :
    (results fn tmps).run Tryd.prog w = .ok (.agg #[v0, v1, v2, v3, v4, v5]) w := by
  have p0 := cell_blk hb (i := 0) rfl
  have p1 := cell_blk hb (i := 1) rfl
  have p2 := cell_blk hb (i := 2) rfl
  have p3 := cell_blk hb (i := 3) rfl
  have p4 := cell_blk hb (i := 4) rfl
  have p5 := cell_blk hb (i := 5) rfl
  simp at p0 p1 p2 p3 p4 p5
  have ht' : tmps[S]?.getD undef = .pointer (some ⟨V, 0, none⟩) := by simpa using ht
  simp [results, hfn, ht', go_sem, p0, p1, p2, p3, p4, p5]
/-- .. and one more behind. -/
theorem FRow.more {P : Nat → Prop} {w : World} {f : List (Bs × Val)} {xs : List Value} (hr : FRow (fun _ => P) w f xs) {nm : Bs} {y : Val} {cs : List Value} (hn : nm.length ≤ 140737488351232) (hc : cs.length = 6) (hv : VIs P w y cs) :
    FRow (fun _ => P) w (f ++ [(nm, y)]) (xs ++ (.string (strOf nm) :: cs)) := by
  refine ⟨by simp [hr.1, hc]; omega, fun j hj => ?_⟩
  rw [List.length_append, List.length_singleton] at hj
  rcases Nat.lt_or_ge j f.length with h | h
  · rw [List.getElem_append_left h]
    obtain ⟨h1, cs', h2, h3⟩ := hr.2 j h
    refine ⟨h1, cs', ?_, h3⟩
    rw [← h2]
    refine piece_ext fun t ht => ?_
    rw [List.getElem?_append_left (by have := hr.1; omega)]
  · obtain rfl : j = f.length := by omega
    rw [List.getElem_append_right (Nat.le_refl _)]
    simp only [Nat.sub_self, List.getElem_cons_zero]
    refine ⟨hn, cs, piece_is (by simp [hc]) (fun t ht => ?_), hv⟩
    rw [List.getElem?_append_right (by have := hr.1; omega), hr.1]
    congr 1
    omega
/-- How the reference's reading of a value ends. -/
def RVP (w : World) (R B o c : Nat) (b : Bs) : Res Val → Ending → World → Prop
  | .ok v a', e, w' => Step [R] id id w w' ∧ ∃ cs : List Value, e = .returned (.agg cs.toArray) ∧ VIs (fun k => w.heap.size ≤ k) w' v cs ∧ RdS w' R B o c b a' 0
  | .bad n, e, w' => Step [R] id id w w' ∧ ∃ (k m : Int) (s : ByteArray) (ba : Option Addr) (bn bc : Nat) (fa : Option Addr) (fn fc : Nat) (la : Option Addr) (ln lc : Nat), e = .returned (.agg #[.int .i64 k, .int .i64 m, .string s, .slice ba bn bc, .slice fa fn fc, .slice la ln lc]) ∧ ∃ a', RdS w' R B o c b a' n
section
variable {w W : World} {R B o c a' : Nat} {b : Bs} {v0 v1 v2 v3 v4 v5 : Value}
theorem rv_ok {x : Val} (hs : Step [R] id id w W) (hR : R < w.heap.size) (hB : B < w.heap.size) (hr : RdS W R B o c b a' 0) (hx : VIs (fun k => w.heap.size < k) W x [v0, v1, v2, v3, v4, v5]) :
    RVP w R B o c b (.ok x a') (.returned (.agg #[v0, v1, v2, v3, v4, v5])) (set6 W w.heap.size v0 v1 v2 v3 v4 v5) := by
  have hg6 : W.grownBy (set6 W w.heap.size v0 v1 v2 v3 v4 v5) (some w.heap.size) := set6_grown
  have hst : Step [w.heap.size] id id W (set6 W w.heap.size v0 v1 v2 v3 v4 v5) := .grown hg6 (fun k hk => by cases hk; simp)
  exact ⟨hs.tailNew hst (by simp), _, rfl, hx.keep (fun k hk => by omega) (fun k hk hl => hg6.block k hl (by simp; omega)), hr.off hst (by simp; omega) (by simp; omega)⟩
theorem rv_bad {n k m : Int} {s : ByteArray} {ba fa la : Option Addr} {bn bc fn fc ln lc : Nat} (hs : Step [R] id id w W) (hR : R < w.heap.size) (hB : B < w.heap.size) (hr : RdS W R B o c b a' n) :
    RVP w R B o c b (.bad n) (.returned (.agg #[.int .i64 k, .int .i64 m, .string s, .slice ba bn bc, .slice fa fn fc, .slice la ln lc])) (set6 W w.heap.size (.int .i64 k) (.int .i64 m) (.string s) (.slice ba bn bc) (.slice fa fn fc) (.slice la ln lc)) := by
  have hg6 : W.grownBy (set6 W w.heap.size (.int .i64 k) (.int .i64 m) (.string s) (.slice ba bn bc) (.slice fa fn fc) (.slice la ln lc)) (some w.heap.size) := set6_grown
  have hst : Step [w.heap.size] id id W _ := .grown hg6 (fun k hk => by cases hk; simp)
  exact ⟨hs.tailNew hst (by simp), k, m, s, ba, bn, bc, fa, fn, fc, la, ln, lc, rfl, a', hr.off hst (by simp; omega) (by simp; omega)⟩
theorem RdS.go {a : Nat} (h : RdS W R B o c b a 0) (n : Nat) (hn : a + n ≤ b.length) {x : Int} (hx : x = ((a + n : Nat) : Int)) (q : Nat) : RdS ((W.drewN q).setCell ⟨R, 1, none⟩ (.int .i64 x)) R B o c b (a + n) 0 ∧ Step [R] id id W ((W.drewN q).setCell ⟨R, 1, none⟩ (.int .i64 x)) := by
  subst hx
  have h1 : Step [R] id id W (W.drewN q) := Step.drewN W q
  exact ⟨(h.to h1 h.cell h.le).moved (a + n) hn, h1.tail (Step.set _ _ (by simp))⟩
end
set_option maxRecDepth 100000 in
set_option maxHeartbeats 4000000 in
theorem ref_text {w : World} {R B o c a : Nat} {b : Bs} (rec_ : Bool → Nat → Res (List (Bs × Val))) (h : RdS w R B o c b a 0) :
    Calls Tryd.prog 91 #[.pointer (some ⟨R, 0, none⟩)] w (RVP w R B o c b (decV b rec_ 2 a)) := by
  have hd : decV b rec_ 2 a = if b.length - a < 4 then .bad 2 else
    if signed 4 (numAt b a 4) < 1 then .bad 4 else
    if (b.length : Int) - (a + 4 : Nat) < signed 4 (numAt b a 4) then .bad 2 else
    if (b.drop (a + 4)).getD ((signed 4 (numAt b a 4)).toNat - 1) 1 ≠ 0 then .bad 4 else
    if utf8 ((b.drop (a + 4)).take ((signed 4 (numAt b a 4)).toNat - 1)) then .ok (.mk 5 0 ((b.drop (a + 4)).take ((signed 4 (numAt b a 4)).toNat - 1)) [] [] []) (a + 4 + (signed 4 (numAt b a 4)).toNat) else .bad 5 := rfl
  rw [hd]
  clear hd
  have hle := h.le
  have hB := h.blt
  have hR := lt_of_block h.cell
  have hcap := h.cap
  have hsm := h.small
  have hne := h.ne
  obtain ⟨W0, hW0⟩ : ∃ W0, W0 = w.alloc (.cells #[.int .i64 0, .int .i64 0, (.string ⟨#[]⟩), (.slice none 0 0), (.slice none 0 0), (.slice none 0 0)] 27) := ⟨_, rfl⟩
  have hA : Step [R] id id w W0 := by rw [hW0]; exact Step.alloc _
  have hA0 : Step [] id id w W0 := by rw [hW0]; exact Step.alloc _
  have hV0 := Lib.hid (show W0.heap[w.heap.size]? = some (.cells #[.int .i64 0, .int .i64 0, (.string ⟨#[]⟩), (.slice none 0 0), (.slice none 0 0), (.slice none 0 0)] 27 (0, 0)) by rw [hW0]; exact heap_alloc_new w _)
  have h0 := Lib.hid (h.step hA0)
  have hA := Lib.hid hA
  have hWH := Lib.hid hW0
  clear h hA0 hW0
  by_cases hn : b.length - a < 4
  · rw [if_pos hn]
    go_enter Tryd.func91, Tryd.ntmps91
    go_wp2_with fail
    rw [← hWH.out]
    refine (need_no h0.out 4 (by omega)).mono ?_
    rintro e w1 ⟨rfl, hr, hst⟩
    have hrw1 := Lib.hid hr
    have hsw1 := Lib.hid ((Step.refl [R] id W0).tail hst)
    have hvb := hsw1.out.at hV0.out (by simp; omega)
    have p0 := cell_blk hvb (i := 0) rfl; have p1 := cell_blk hvb (i := 1) rfl; have p2 := cell_blk hvb (i := 2) rfl; have p3 := cell_blk hvb (i := 3) rfl; have p4 := cell_blk hvb (i := 4) rfl; have p5 := cell_blk hvb (i := 5) rfl; have pf := free_blk hvb
    have hvbH := Lib.hid hvb
    clear hr hst hvb
    go_wp2_with fail
    change bodyPost _ _ _ _ _ (set6 w1 w.heap.size (.int .i64 0) (.int .i64 0) (.string ⟨#[]⟩) (.slice none 0 0) (.slice none 0 0) (.slice none 0 0))
    refine bodyPost_ret (results_to rfl rfl (set6_heap hvbH.out)) rfl ?_
    (try rw [hres.out])
    exact rv_bad (hA.out.tail hsw1.out) hR hB hrw1.out
  rw [if_neg hn]
  have hn4 : a + 4 ≤ b.length := by omega
  have hlt4 := numAt_lt4 hn4
  obtain ⟨N, hN⟩ : ∃ N, signed 4 (numAt b a 4) = N := ⟨_, rfl⟩
  rw [hN]
  obtain ⟨M, hM⟩ : ∃ M, M = numAt b a 4 := ⟨_, rfl⟩
  rw [← hM] at hlt4
  have hcv : wrap64 (wrap32 (M : Int)) = N := by rw [hM, ← hN]; exact signed_conv _ (by rw [← hM]; exact hlt4)
  have hu : (M : Int) % 4294967296 = M := by omega
  have hMH := Lib.hid hM
  have hNH := Lib.hid hN
  have hrg := signed4_range _ (by rw [hM] at hlt4; exact hlt4)
  rw [hN] at hrg
  clear hN hM
  have hw4 : IntKind.i64.wrap ((a : Int) + 4) = (a : Int) + 4 := IntWalk.i64_in _ (by omega)
  obtain ⟨RES, hR0⟩ : ∃ RES : Res Val, RES = (if N < 1 then .bad 4 else
    if (b.length : Int) - (a + 4 : Nat) < N then .bad 2 else
    if (b.drop (a + 4)).getD (N.toNat - 1) 1 ≠ 0 then .bad 4 else
    if utf8 ((b.drop (a + 4)).take (N.toNat - 1)) then .ok (.mk 5 0 ((b.drop (a + 4)).take (N.toNat - 1)) [] [] []) (a + 4 + N.toNat) else .bad 5) := ⟨_, rfl⟩
  rw [← hR0]
  have hRES := Lib.hid hR0
  clear hR0
  go_enter Tryd.func91, Tryd.ntmps91
  go_wp2_with fail
  rw [← hWH.out]
  refine (need_ok h0.out 4 (by omega)).mono ?_
  rintro e w1 ⟨rfl, hr, hst⟩
  have hrw1 := Lib.hid hr
  have hsw1 := Lib.hid ((Step.refl [R] id W0).tail hst)
  clear hr hst
  have c0 := cell_blk hrw1.out.cell (i := 0) rfl; have c1 := cell_blk hrw1.out.cell (i := 1) rfl; have fR := free_blk hrw1.out.cell
  have hgt := Lib.hid (fun k => ref_get (w := w1.drewN k) (B := B) (o := o) (c := c) (a := a) (b := b) 4 (fun i hi => hrw1.out.bytes i hi) hsm hn4 (by omega))
  have hmv := fun q => hrw1.out.go 4 hn4 (x := (a : Int) + 4) (by push_cast; rfl) q
  have hmvH := Lib.hid hmv
  clear hmv
  go_wp2_with fail
  go_quiet ((go_at_call 54; rw [← hMH.out] at hgt; exact quietL (hgt.out _)))
  rw [hcv]
  by_cases hlow : N < 1
  · have hres := Lib.hid (show RES = .bad 4 by rw [hRES.out, if_pos hlow])
    go_wp2_with fail
    refine (bad_ok (hmvH.out _).1 4).mono ?_
    rintro e w2 ⟨rfl, hr, hst⟩
    have hrw2 := Lib.hid hr
    have hsw2 := Lib.hid ((hsw1.out.tail (hmvH.out _).2).tail hst)
    have hvb := hsw2.out.at hV0.out (by simp; omega)
    have p0 := cell_blk hvb (i := 0) rfl; have p1 := cell_blk hvb (i := 1) rfl; have p2 := cell_blk hvb (i := 2) rfl; have p3 := cell_blk hvb (i := 3) rfl; have p4 := cell_blk hvb (i := 4) rfl; have p5 := cell_blk hvb (i := 5) rfl; have pf := free_blk hvb
    have hvbH := Lib.hid hvb
    clear hr hst hvb
    go_wp2_with fail
    change bodyPost _ _ _ _ _ (set6 w2 w.heap.size (.int .i64 0) (.int .i64 0) (.string ⟨#[]⟩) (.slice none 0 0) (.slice none 0 0) (.slice none 0 0))
    refine bodyPost_ret (results_to rfl rfl (set6_heap hvbH.out)) rfl ?_
    (try rw [hres.out])
    exact rv_bad (hA.out.tail hsw2.out) hR hB hrw2.out
  have hRES := Lib.hid (hRES.out.trans (if_neg hlow))
  by_cases hsh : (b.length : Int) - (a + 4 : Nat) < N
  · have hres := Lib.hid (show RES = .bad 2 by rw [hRES.out, if_pos hsh])
    go_wp2_with fail
    refine (need_no (hmvH.out _).1 N (by omega)).mono ?_
    rintro e w2 ⟨rfl, hr, hst⟩
    have hrw2 := Lib.hid hr
    have hsw2 := Lib.hid ((hsw1.out.tail (hmvH.out _).2).tail hst)
    have hvb := hsw2.out.at hV0.out (by simp; omega)
    have p0 := cell_blk hvb (i := 0) rfl; have p1 := cell_blk hvb (i := 1) rfl; have p2 := cell_blk hvb (i := 2) rfl; have p3 := cell_blk hvb (i := 3) rfl; have p4 := cell_blk hvb (i := 4) rfl; have p5 := cell_blk hvb (i := 5) rfl; have pf := free_blk hvb
    have hvbH := Lib.hid hvb
    clear hr hst hvb
    go_wp2_with fail
    change bodyPost _ _ _ _ _ (set6 w2 w.heap.size (.int .i64 0) (.int .i64 0) (.string ⟨#[]⟩) (.slice none 0 0) (.slice none 0 0) (.slice none 0 0))
    refine bodyPost_ret (results_to rfl rfl (set6_heap hvbH.out)) rfl ?_
    (try rw [hres.out])
    exact rv_bad (hA.out.tail hsw2.out) hR hB hrw2.out
  have hRES := Lib.hid (hRES.out.trans (if_neg hsh))
  obtain ⟨p, hp⟩ : ∃ p, p = a + 4 := ⟨_, rfl⟩
  have hpN : (p : Int) + N ≤ b.length := by omega
  have hN1 : 1 ≤ N := by omega
  rw [← hp] at hRES hmvH
  go_wp2_with fail
  refine (need_ok (hmvH.out _).1 N (by omega)).mono ?_
  rintro e w2 ⟨rfl, hr, hst⟩
  have hrw2 := Lib.hid hr
  have hsw2 := Lib.hid ((hsw1.out.tail (hmvH.out _).2).tail hst)
  clear hr hst
  clear c0 c1 fR
  have c0 := cell_blk hrw2.out.cell (i := 0) rfl; have c1 := cell_blk hrw2.out.cell (i := 1) rfl; have fR := free_blk hrw2.out.cell
  have hvb := hsw2.out.at hV0.out (by simp; omega)
  obtain ⟨m, hm⟩ : ∃ m : Nat, N = (m : Int) + 1 := ⟨(N - 1).toNat, by omega⟩
  obtain ⟨s, hs⟩ : ∃ s, s = (b.drop p).take m := ⟨_, rfl⟩
  have hsl : s.length = m := by rw [hs]; exact take_len (by omega)
  have hcv2 : (convert 22 9 (.slice (some ⟨B, o + p, none⟩) (((p : Int) + N).toNat - 1 - p) (c - p))).run Tryd.prog w2.drew = .ok (.string (strOf s)) w2.drew :=
    bs_str B (o + p) (((p : Int) + N).toNat - 1 - p) (c - p) s _ (by omega) (by rw [hs]; exact hrw2.out.lie p m)
  obtain ⟨S, hS⟩ : ∃ S, S = strOf s := ⟨_, rfl⟩
  rw [← hS] at hcv2
  have hwa : IntKind.i64.wrap ((p : Int) + N) = (p : Int) + N := IntWalk.i64_in _ (by omega)
  have hwb : IntKind.i64.wrap ((p : Int) + N - 1) = (p : Int) + N - 1 := IntWalk.i64_in _ (by omega)
  have hp0 : (0 : Int) ≤ (p : Int) := by omega
  have hp1 : (p : Int) ≤ (p : Int) + N - 1 := by omega
  have hp2 : (p : Int) + N - 1 ≤ (c : Int) := by omega
  have hcp : ¬ c = p := by omega
  have hpNl : (p : Int) + N - 1 < (b.length : Int) := by omega
  have hpN0 : (0 : Int) ≤ (p : Int) + N - 1 := by omega
  have hmH := Lib.hid hm
  have hsH := Lib.hid hs
  have hSH := Lib.hid hS
  have hpH := Lib.hid hp
  have hvbH := Lib.hid hvb
  have hslH := Lib.hid hsl
  clear hm hs hS hp hvb hsl
  go_wp2_with fail
  refine wp_region_held_drew (S := (fun w' => w'.cell? ⟨R, 0, none⟩ = some (.slice (some ⟨B, o, none⟩) b.length c) ∧ w'.cell? ⟨R, 1, none⟩ = some (.int .i64 (p : Int)) ∧ (convert 22 9 (.slice (some ⟨B, o + p, none⟩) (((p : Int) + N).toNat - 1 - p) (c - p))).run Tryd.prog w' = .ok (.string S) w')) (by kernel_rfl) ⟨c0, c1, hcv2⟩ (fun hHeld => ?_)
  refine wpAnyH_take (i := 0) (v := ?_) rfl (by kernel_rfl) (by kernel_rfl) (by kernel_rfl) (fun _ _ _ h => h) (Or.inl ⟨by kernel_rfl, ?_⟩) hHeld ?_
  rotate_left
  · intro w' hSw; (try dsimp only at hSw); go_simp
    all_goals (with_reducible rfl)
  simp only [Act.put, List.getElem_toArray, List.getElem_cons_zero, List.getElem_cons_succ, List.setIfInBounds_toArray, List.set_cons_zero, List.set_cons_succ]
  refine wpAnyH_take (i := 1) (v := ?_) rfl (by kernel_rfl) (by kernel_rfl) (by kernel_rfl) (fun _ _ _ h => h) (Or.inl ⟨by kernel_rfl, ?_⟩) hHeld ?_
  rotate_left
  · intro w' hSw; (try dsimp only at hSw); go_simp
    all_goals (with_reducible rfl)
  simp only [Act.put, List.getElem_toArray, List.getElem_cons_zero, List.getElem_cons_succ, List.setIfInBounds_toArray, List.set_cons_zero, List.set_cons_succ]
  refine wpAnyH_take (i := 2) (v := ?_) rfl (by kernel_rfl) (by kernel_rfl) (by kernel_rfl) (fun _ _ _ h => h) (Or.inl ⟨by kernel_rfl, ?_⟩) hHeld ?_
  rotate_left
  · intro w' hSw; (try dsimp only at hSw); go_simp
    all_goals (with_reducible rfl)
  simp only [Act.put, List.getElem_toArray, List.getElem_cons_zero, List.getElem_cons_succ, List.setIfInBounds_toArray, List.set_cons_zero, List.set_cons_succ]
  refine wpAnyH_take (i := 3) (v := ?_) rfl (by kernel_rfl) (by kernel_rfl) (by kernel_rfl) (fun _ _ _ h => h) (Or.inl ⟨by kernel_rfl, ?_⟩) hHeld ?_
  rotate_left
  · intro w' hSw; (try dsimp only at hSw); go_simp
    all_goals (with_reducible rfl)
  simp only [Act.put, List.getElem_toArray, List.getElem_cons_zero, List.getElem_cons_succ, List.setIfInBounds_toArray, List.set_cons_zero, List.set_cons_succ]
  refine wpAnyH_take (i := 4) (v := ?_) rfl (by kernel_rfl) (by kernel_rfl) (by kernel_rfl) (fun _ _ _ h => h) (Or.inl ⟨by kernel_rfl, ?_⟩) hHeld ?_
  rotate_left
  · intro w' hSw; (try dsimp only at hSw); go_simp
    all_goals (with_reducible rfl)
  simp only [Act.put, List.getElem_toArray, List.getElem_cons_zero, List.getElem_cons_succ, List.setIfInBounds_toArray, List.set_cons_zero, List.set_cons_succ]
  refine wpAnyH_take (i := 5) (v := ?_) rfl (by kernel_rfl) (by kernel_rfl) (by kernel_rfl) (fun _ _ _ h => h) (Or.inl ⟨by kernel_rfl, ?_⟩) hHeld ?_
  rotate_left
  · intro w' hSw; (try dsimp only at hSw); go_simp
    all_goals (with_reducible rfl)
  simp only [Act.put, List.getElem_toArray, List.getElem_cons_zero, List.getElem_cons_succ, List.setIfInBounds_toArray, List.set_cons_zero, List.set_cons_succ]
  refine wpAnyH_take (i := 6) (v := ?_) rfl (by kernel_rfl) (by kernel_rfl) (by kernel_rfl) (fun _ _ _ h => h) (Or.inl ⟨by kernel_rfl, ?_⟩) hHeld ?_
  rotate_left
  · intro w' hSw; (try dsimp only at hSw); go_simp
    all_goals (with_reducible rfl)
  simp only [Act.put, List.getElem_toArray, List.getElem_cons_zero, List.getElem_cons_succ, List.setIfInBounds_toArray, List.set_cons_zero, List.set_cons_succ]
  refine wpAnyH_take (i := 7) (v := ?_) rfl (by kernel_rfl) (by kernel_rfl) (by kernel_rfl) (fun _ _ _ h => h) (Or.inl ⟨by kernel_rfl, ?_⟩) hHeld ?_
  rotate_left
  · intro w' hSw; (try dsimp only at hSw); go_simp
    all_goals (with_reducible rfl)
  simp only [Act.put, List.getElem_toArray, List.getElem_cons_zero, List.getElem_cons_succ, List.setIfInBounds_toArray, List.set_cons_zero, List.set_cons_succ]
  refine wpAnyH_take (i := 8) (v := ?_) rfl (by kernel_rfl) (by kernel_rfl) (by kernel_rfl) (fun _ _ _ h => h) (Or.inl ⟨by kernel_rfl, ?_⟩) hHeld ?_
  rotate_left
  · intro w' hSw; (try dsimp only at hSw); go_simp
    all_goals (with_reducible rfl)
  simp only [Act.put, List.getElem_toArray, List.getElem_cons_zero, List.getElem_cons_succ, List.setIfInBounds_toArray, List.set_cons_zero, List.set_cons_succ]
  refine wpAnyH_take (i := 9) (v := ?_) rfl (by kernel_rfl) (by kernel_rfl) (by kernel_rfl) (fun _ _ _ h => h) (Or.inl ⟨by kernel_rfl, ?_⟩) hHeld ?_
  rotate_left
  · intro w' hSw; (try dsimp only at hSw); go_simp
    all_goals (with_reducible rfl)
  simp only [Act.put, List.getElem_toArray, List.getElem_cons_zero, List.getElem_cons_succ, List.setIfInBounds_toArray, List.set_cons_zero, List.set_cons_succ]
  refine wpAnyH_take (i := 10) (v := ?_) rfl (by kernel_rfl) (by kernel_rfl) (by kernel_rfl) (fun _ _ _ h => h) (Or.inl ⟨by kernel_rfl, ?_⟩) hHeld ?_
  rotate_left
  · intro w' hSw; (try dsimp only at hSw); go_simp
    all_goals (with_reducible rfl)
  simp only [Act.put, List.getElem_toArray, List.getElem_cons_zero, List.getElem_cons_succ, List.setIfInBounds_toArray, List.set_cons_zero, List.set_cons_succ]
  refine wpAnyH_take (i := 11) (v := ?_) rfl (by kernel_rfl) (by kernel_rfl) (by kernel_rfl) (fun _ _ _ h => h) (Or.inl ⟨by kernel_rfl, ?_⟩) hHeld ?_
  rotate_left
  · intro w' hSw; (try dsimp only at hSw); go_simp
    all_goals (with_reducible rfl)
  simp only [Act.put, List.getElem_toArray, List.getElem_cons_zero, List.getElem_cons_succ, List.setIfInBounds_toArray, List.set_cons_zero, List.set_cons_succ]
  refine wpAnyH_take (i := 12) (v := ?_) rfl (by kernel_rfl) (by kernel_rfl) (by kernel_rfl) (fun _ _ _ h => h) (Or.inl ⟨by kernel_rfl, ?_⟩) hHeld ?_
  rotate_left
  · intro w' hSw; (try dsimp only at hSw); go_simp
    all_goals (with_reducible rfl)
  simp only [Act.put, List.getElem_toArray, List.getElem_cons_zero, List.getElem_cons_succ, List.setIfInBounds_toArray, List.set_cons_zero, List.set_cons_succ]
  refine wpAnyH_take (i := 13) (v := ?_) rfl (by kernel_rfl) (by kernel_rfl) (by kernel_rfl) (fun _ _ _ h => h) (Or.inl ⟨by kernel_rfl, ?_⟩) hHeld ?_
  rotate_left
  · intro w' hSw; (try dsimp only at hSw); go_simp
    all_goals (with_reducible rfl)
  simp only [Act.put, List.getElem_toArray, List.getElem_cons_zero, List.getElem_cons_succ, List.setIfInBounds_toArray, List.set_cons_zero, List.set_cons_succ]
  refine wpAnyH_take (i := 14) (v := ?_) rfl (by kernel_rfl) (by kernel_rfl) (by kernel_rfl) (fun _ _ _ h => h) (Or.inl ⟨by kernel_rfl, ?_⟩) hHeld ?_
  rotate_left
  · intro w' hSw; (try dsimp only at hSw); go_simp
    all_goals (with_reducible rfl)
  simp only [Act.put, List.getElem_toArray, List.getElem_cons_zero, List.getElem_cons_succ, List.setIfInBounds_toArray, List.set_cons_zero, List.set_cons_succ]
  refine wpAnyH_take (i := 15) (v := ?_) rfl (by kernel_rfl) (by kernel_rfl) (by kernel_rfl) (fun _ _ _ h => h) (Or.inl ⟨by kernel_rfl, ?_⟩) hHeld ?_
  rotate_left
  · intro w' hSw; (try dsimp only at hSw); go_simp
    all_goals (with_reducible rfl)
  simp only [Act.put, List.getElem_toArray, List.getElem_cons_zero, List.getElem_cons_succ, List.setIfInBounds_toArray, List.set_cons_zero, List.set_cons_succ]
  refine wpAnyH_take (i := 16) (v := ?_) rfl (by kernel_rfl) (by kernel_rfl) (by kernel_rfl) (fun _ _ _ h => h) (Or.inl ⟨by kernel_rfl, ?_⟩) hHeld ?_
  rotate_left
  · intro w' hSw; (try dsimp only at hSw); go_simp
    all_goals (with_reducible rfl)
  simp only [Act.put, List.getElem_toArray, List.getElem_cons_zero, List.getElem_cons_succ, List.setIfInBounds_toArray, List.set_cons_zero, List.set_cons_succ]
  refine wpAnyH_take (i := 17) (v := ?_) rfl (by kernel_rfl) (by kernel_rfl) (by kernel_rfl) (fun _ _ _ h => h) (Or.inl ⟨by kernel_rfl, ?_⟩) hHeld ?_
  rotate_left
  · intro w' hSw; (try dsimp only at hSw); go_simp
    all_goals (with_reducible rfl)
  simp only [Act.put, List.getElem_toArray, List.getElem_cons_zero, List.getElem_cons_succ, List.setIfInBounds_toArray, List.set_cons_zero, List.set_cons_succ]
  refine wpAnyH_done (by kernel_rfl) ?_ _
  go_wp2_with fail
  have hm := hmH.out
  have hq3 : p + m + 1 ≤ b.length := by omega
  obtain ⟨W3, hW3⟩ : ∃ W3, W3 = w2.setCell ⟨R, 1, none⟩ (.int .i64 ((p : Int) + N)) := ⟨_, rfl⟩
  rw [← hW3]
  have hr3 : RdS W3 R B o c b (p + m + 1) 0 := by
    have := hrw2.out.moved (p + m + 1) hq3
    rwa [show ((p + m + 1 : Nat) : Int) = (p : Int) + N by rw [hm]; push_cast; omega, ← hW3] at this
  have hst3 : Step [R] id id w2 W3 := by rw [hW3]; exact Step.set _ _ (by simp)
  obtain ⟨q, hq⟩ : ∃ q, q = p + m + 1 := ⟨_, rfl⟩
  rw [← hq] at hr3
  clear c0 c1 fR
  have c0 := cell_blk hr3.cell (i := 0) rfl; have c1 := cell_blk hr3.cell (i := 1) rfl; have fR := free_blk hr3.cell
  obtain ⟨y, hy⟩ : ∃ y : Nat, y = (b[p + m]'(by omega)).toNat := ⟨_, rfl⟩
  have hcell3 : W3.cell? ⟨B, o + (q - 1), none⟩ = some (.int .u8 (y : Int)) := by
    rw [hy, show q - 1 = p + m by omega]; exact hr3.bytes (p + m) (by omega)
  have hvb3 := hst3.at hvbH.out (by simp; omega)
  have hwq : IntKind.i64.wrap ((q : Int) - 1) = (q : Int) - 1 := IntWalk.i64_in _ (by omega)
  have hq0 : (1 : Int) ≤ (q : Int) := by omega
  have hq1 : (q : Int) - 1 < (b.length : Int) := by omega
  have hbw3 := Lib.hid (((hA.out.tail hsw2.out).tail hst3))
  have hgetb : (b.drop p).getD (N.toNat - 1) 1 = b[p + m]'(by omega) := by
    rw [show N.toNat - 1 = m by omega, List.getD_eq_getElem?_getD, List.getElem?_drop, List.getElem?_eq_getElem (by omega)]; rfl
  have hge0 : b[p + m]'(by omega) = 0 ↔ y = 0 := by rw [hy, ← UInt8.toNat_inj]; simp
  have hRES := Lib.hid (show RES = if y ≠ 0 then .bad 4 else if utf8 s then .ok (.mk 5 0 s [] [] []) q else .bad 5 by
    rw [hRES.out, hgetb, hsH.out, show N.toNat - 1 = m by omega, show p + N.toNat = q by omega]
    by_cases h0 : y = 0
    · rw [if_neg (show ¬ (b[p + m]'(by omega) ≠ 0) from fun h => h (hge0.2 h0)), if_neg (show ¬ y ≠ 0 from fun h => h h0)]
    · rw [if_pos (fun e => h0 (hge0.1 e)), if_pos h0])
  have hu8 := Lib.hid (fun W => ref_utf8 s W (by have := hslH.out; omega))
  have hr3H := Lib.hid hr3
  have hst3H := Lib.hid hst3
  have hvb3H := Lib.hid hvb3
  have hW3H := Lib.hid hW3
  have p0 := cell_blk hvb3 (i := 0) rfl; have p1 := cell_blk hvb3 (i := 1) rfl; have p2 := cell_blk hvb3 (i := 2) rfl; have p3 := cell_blk hvb3 (i := 3) rfl; have p4 := cell_blk hvb3 (i := 4) rfl; have p5 := cell_blk hvb3 (i := 5) rfl; have pf := free_blk hvb3
  have hvl3 := lt_of_block hvb3
  clear hy hgetb hge0 hm hr3 hst3 hvb3 hW3 hq hHeld hcv2
  by_cases hy0 : y = 0
  rotate_left
  · have hres := Lib.hid (hRES.out.trans (if_pos hy0))
    have hyi : ((y : Int) != 0) = true := by rw [bne_iff_ne]; omega
    refine wp_region_held_drew (S := (fun w' => w'.cell? ⟨R, 0, none⟩ = some (.slice (some ⟨B, o, none⟩) b.length c) ∧ w'.cell? ⟨R, 1, none⟩ = some (.int .i64 (q : Int)) ∧ w'.cell? ⟨B, o + (q - 1), none⟩ = some (.int .u8 (y : Int)))) (by kernel_rfl) ⟨c0, c1, hcell3⟩ (fun hHeld => ?_)
    refine wpAnyH_take (i := 0) (v := ?_) rfl (by kernel_rfl) (by kernel_rfl) (by kernel_rfl) (fun _ _ _ h => h) (Or.inl ⟨by kernel_rfl, ?_⟩) hHeld ?_
    rotate_left
    · intro w' hSw; (try dsimp only at hSw); go_simp
      all_goals (with_reducible rfl)
    simp only [Act.put, List.getElem_toArray, List.getElem_cons_zero, List.getElem_cons_succ, List.setIfInBounds_toArray, List.set_cons_zero, List.set_cons_succ]
    refine wpAnyH_take (i := 1) (v := ?_) rfl (by kernel_rfl) (by kernel_rfl) (by kernel_rfl) (fun _ _ _ h => h) (Or.inl ⟨by kernel_rfl, ?_⟩) hHeld ?_
    rotate_left
    · intro w' hSw; (try dsimp only at hSw); go_simp
      all_goals (with_reducible rfl)
    simp only [Act.put, List.getElem_toArray, List.getElem_cons_zero, List.getElem_cons_succ, List.setIfInBounds_toArray, List.set_cons_zero, List.set_cons_succ]
    refine wpAnyH_take (i := 2) (v := ?_) rfl (by kernel_rfl) (by kernel_rfl) (by kernel_rfl) (fun _ _ _ h => h) (Or.inl ⟨by kernel_rfl, ?_⟩) hHeld ?_
    rotate_left
    · intro w' hSw; (try dsimp only at hSw); go_simp
      all_goals (with_reducible rfl)
    simp only [Act.put, List.getElem_toArray, List.getElem_cons_zero, List.getElem_cons_succ, List.setIfInBounds_toArray, List.set_cons_zero, List.set_cons_succ]
    refine wpAnyH_take (i := 3) (v := ?_) rfl (by kernel_rfl) (by kernel_rfl) (by kernel_rfl) (fun _ _ _ h => h) (Or.inl ⟨by kernel_rfl, ?_⟩) hHeld ?_
    rotate_left
    · intro w' hSw; (try dsimp only at hSw); go_simp
      all_goals (with_reducible rfl)
    simp only [Act.put, List.getElem_toArray, List.getElem_cons_zero, List.getElem_cons_succ, List.setIfInBounds_toArray, List.set_cons_zero, List.set_cons_succ]
    refine wpAnyH_take (i := 4) (v := ?_) rfl (by kernel_rfl) (by kernel_rfl) (by kernel_rfl) (fun _ _ _ h => h) (Or.inl ⟨by kernel_rfl, ?_⟩) hHeld ?_
    rotate_left
    · intro w' hSw; (try dsimp only at hSw); go_simp
      all_goals (with_reducible rfl)
    simp only [Act.put, List.getElem_toArray, List.getElem_cons_zero, List.getElem_cons_succ, List.setIfInBounds_toArray, List.set_cons_zero, List.set_cons_succ]
    refine wpAnyH_take (i := 5) (v := ?_) rfl (by kernel_rfl) (by kernel_rfl) (by kernel_rfl) (fun _ _ _ h => h) (Or.inl ⟨by kernel_rfl, ?_⟩) hHeld ?_
    rotate_left
    · intro w' hSw; (try dsimp only at hSw); go_simp
      all_goals (with_reducible rfl)
    simp only [Act.put, List.getElem_toArray, List.getElem_cons_zero, List.getElem_cons_succ, List.setIfInBounds_toArray, List.set_cons_zero, List.set_cons_succ]
    refine wpAnyH_take (i := 6) (v := ?_) rfl (by kernel_rfl) (by kernel_rfl) (by kernel_rfl) (fun _ _ _ h => h) (Or.inl ⟨by kernel_rfl, ?_⟩) hHeld ?_
    rotate_left
    · intro w' hSw; (try dsimp only at hSw); go_simp
      all_goals (with_reducible rfl)
    simp only [Act.put, List.getElem_toArray, List.getElem_cons_zero, List.getElem_cons_succ, List.setIfInBounds_toArray, List.set_cons_zero, List.set_cons_succ]
    refine wpAnyH_take (i := 7) (v := ?_) rfl (by kernel_rfl) (by kernel_rfl) (by kernel_rfl) (fun _ _ _ h => h) (Or.inl ⟨by kernel_rfl, ?_⟩) hHeld ?_
    rotate_left
    · intro w' hSw; (try dsimp only at hSw); go_simp
      all_goals (with_reducible rfl)
    simp only [Act.put, List.getElem_toArray, List.getElem_cons_zero, List.getElem_cons_succ, List.setIfInBounds_toArray, List.set_cons_zero, List.set_cons_succ]
    refine wpAnyH_take (i := 8) (v := ?_) rfl (by kernel_rfl) (by kernel_rfl) (by kernel_rfl) (fun _ _ _ h => h) (Or.inl ⟨by kernel_rfl, ?_⟩) hHeld ?_
    rotate_left
    · intro w' hSw; (try dsimp only at hSw); go_simp
      all_goals (with_reducible rfl)
    simp only [Act.put, List.getElem_toArray, List.getElem_cons_zero, List.getElem_cons_succ, List.setIfInBounds_toArray, List.set_cons_zero, List.set_cons_succ]
    refine wpAnyH_take (i := 9) (v := ?_) rfl (by kernel_rfl) (by kernel_rfl) (by kernel_rfl) (fun _ _ _ h => h) (Or.inl ⟨by kernel_rfl, ?_⟩) hHeld ?_
    rotate_left
    · intro w' hSw; (try dsimp only at hSw); go_simp
      all_goals (with_reducible rfl)
    simp only [Act.put, List.getElem_toArray, List.getElem_cons_zero, List.getElem_cons_succ, List.setIfInBounds_toArray, List.set_cons_zero, List.set_cons_succ]
    refine wpAnyH_take (i := 10) (v := ?_) rfl (by kernel_rfl) (by kernel_rfl) (by kernel_rfl) (fun _ _ _ h => h) (Or.inl ⟨by kernel_rfl, ?_⟩) hHeld ?_
    rotate_left
    · intro w' hSw; (try dsimp only at hSw); go_simp
      all_goals (with_reducible rfl)
    simp only [Act.put, List.getElem_toArray, List.getElem_cons_zero, List.getElem_cons_succ, List.setIfInBounds_toArray, List.set_cons_zero, List.set_cons_succ]
    refine wpAnyH_take (i := 11) (v := ?_) rfl (by kernel_rfl) (by kernel_rfl) (by kernel_rfl) (fun _ _ _ h => h) (Or.inl ⟨by kernel_rfl, ?_⟩) hHeld ?_
    rotate_left
    · intro w' hSw; (try dsimp only at hSw); go_simp
      all_goals (with_reducible rfl)
    simp only [Act.put, List.getElem_toArray, List.getElem_cons_zero, List.getElem_cons_succ, List.setIfInBounds_toArray, List.set_cons_zero, List.set_cons_succ]
    refine wpAnyH_done (by kernel_rfl) ?_ _
    go_wp2_with fail
    refine (bad_ok (w := W3.drew.drew) (hr3H.out.step (Step.drew.tail Step.drew)) 4).mono ?_
    rintro e w4 ⟨rfl, hr, hst⟩
    have hrw4 := Lib.hid hr
    have hsw4 := Lib.hid ((hbw3.out.tail (Step.drew.tail Step.drew)).tail hst)
    have hvb := hst.at (w := W3.drew.drew) hvb3H.out (by simp; omega)
    clear p0 p1 p2 p3 p4 p5 pf
    have p0 := cell_blk hvb (i := 0) rfl; have p1 := cell_blk hvb (i := 1) rfl; have p2 := cell_blk hvb (i := 2) rfl; have p3 := cell_blk hvb (i := 3) rfl; have p4 := cell_blk hvb (i := 4) rfl; have p5 := cell_blk hvb (i := 5) rfl; have pf := free_blk hvb
    have hvbH := Lib.hid hvb
    clear hr hst hvb
    go_wp2_with fail
    change bodyPost _ _ _ _ _ (set6 w4 w.heap.size (.int .i64 5) (.int .i64 0) (.string S) (.slice none 0 0) (.slice none 0 0) (.slice none 0 0))
    refine bodyPost_ret (results_to rfl rfl (set6_heap hvbH.out)) rfl ?_
    rw [hres.out]
    exact rv_bad hsw4.out hR hB hrw4.out
  have hRES := Lib.hid (hRES.out.trans (if_neg (by simpa using hy0)))
  subst hy0
  have hyi : (((0 : Nat) : Int) != 0) = false := rfl
  refine wp_region_held_drew (S := (fun w' => w'.cell? ⟨R, 0, none⟩ = some (.slice (some ⟨B, o, none⟩) b.length c) ∧ w'.cell? ⟨R, 1, none⟩ = some (.int .i64 (q : Int)) ∧ w'.cell? ⟨B, o + (q - 1), none⟩ = some (.int .u8 ((0 : Nat) : Int)))) (by kernel_rfl) ⟨c0, c1, hcell3⟩ (fun hHeld => ?_)
  refine wpAnyH_take (i := 0) (v := ?_) rfl (by kernel_rfl) (by kernel_rfl) (by kernel_rfl) (fun _ _ _ h => h) (Or.inl ⟨by kernel_rfl, ?_⟩) hHeld ?_
  rotate_left
  · intro w' hSw; (try dsimp only at hSw); go_simp
    all_goals (with_reducible rfl)
  simp only [Act.put, List.getElem_toArray, List.getElem_cons_zero, List.getElem_cons_succ, List.setIfInBounds_toArray, List.set_cons_zero, List.set_cons_succ]
  refine wpAnyH_take (i := 1) (v := ?_) rfl (by kernel_rfl) (by kernel_rfl) (by kernel_rfl) (fun _ _ _ h => h) (Or.inl ⟨by kernel_rfl, ?_⟩) hHeld ?_
  rotate_left
  · intro w' hSw; (try dsimp only at hSw); go_simp
    all_goals (with_reducible rfl)
  simp only [Act.put, List.getElem_toArray, List.getElem_cons_zero, List.getElem_cons_succ, List.setIfInBounds_toArray, List.set_cons_zero, List.set_cons_succ]
  refine wpAnyH_take (i := 2) (v := ?_) rfl (by kernel_rfl) (by kernel_rfl) (by kernel_rfl) (fun _ _ _ h => h) (Or.inl ⟨by kernel_rfl, ?_⟩) hHeld ?_
  rotate_left
  · intro w' hSw; (try dsimp only at hSw); go_simp
    all_goals (with_reducible rfl)
  simp only [Act.put, List.getElem_toArray, List.getElem_cons_zero, List.getElem_cons_succ, List.setIfInBounds_toArray, List.set_cons_zero, List.set_cons_succ]
  refine wpAnyH_take (i := 3) (v := ?_) rfl (by kernel_rfl) (by kernel_rfl) (by kernel_rfl) (fun _ _ _ h => h) (Or.inl ⟨by kernel_rfl, ?_⟩) hHeld ?_
  rotate_left
  · intro w' hSw; (try dsimp only at hSw); go_simp
    all_goals (with_reducible rfl)
  simp only [Act.put, List.getElem_toArray, List.getElem_cons_zero, List.getElem_cons_succ, List.setIfInBounds_toArray, List.set_cons_zero, List.set_cons_succ]
  refine wpAnyH_take (i := 4) (v := ?_) rfl (by kernel_rfl) (by kernel_rfl) (by kernel_rfl) (fun _ _ _ h => h) (Or.inl ⟨by kernel_rfl, ?_⟩) hHeld ?_
  rotate_left
  · intro w' hSw; (try dsimp only at hSw); go_simp
    all_goals (with_reducible rfl)
  simp only [Act.put, List.getElem_toArray, List.getElem_cons_zero, List.getElem_cons_succ, List.setIfInBounds_toArray, List.set_cons_zero, List.set_cons_succ]
  refine wpAnyH_take (i := 5) (v := ?_) rfl (by kernel_rfl) (by kernel_rfl) (by kernel_rfl) (fun _ _ _ h => h) (Or.inl ⟨by kernel_rfl, ?_⟩) hHeld ?_
  rotate_left
  · intro w' hSw; (try dsimp only at hSw); go_simp
    all_goals (with_reducible rfl)
  simp only [Act.put, List.getElem_toArray, List.getElem_cons_zero, List.getElem_cons_succ, List.setIfInBounds_toArray, List.set_cons_zero, List.set_cons_succ]
  refine wpAnyH_take (i := 6) (v := ?_) rfl (by kernel_rfl) (by kernel_rfl) (by kernel_rfl) (fun _ _ _ h => h) (Or.inl ⟨by kernel_rfl, ?_⟩) hHeld ?_
  rotate_left
  · intro w' hSw; (try dsimp only at hSw); go_simp
    all_goals (with_reducible rfl)
  simp only [Act.put, List.getElem_toArray, List.getElem_cons_zero, List.getElem_cons_succ, List.setIfInBounds_toArray, List.set_cons_zero, List.set_cons_succ]
  refine wpAnyH_take (i := 7) (v := ?_) rfl (by kernel_rfl) (by kernel_rfl) (by kernel_rfl) (fun _ _ _ h => h) (Or.inl ⟨by kernel_rfl, ?_⟩) hHeld ?_
  rotate_left
  · intro w' hSw; (try dsimp only at hSw); go_simp
    all_goals (with_reducible rfl)
  simp only [Act.put, List.getElem_toArray, List.getElem_cons_zero, List.getElem_cons_succ, List.setIfInBounds_toArray, List.set_cons_zero, List.set_cons_succ]
  refine wpAnyH_take (i := 8) (v := ?_) rfl (by kernel_rfl) (by kernel_rfl) (by kernel_rfl) (fun _ _ _ h => h) (Or.inl ⟨by kernel_rfl, ?_⟩) hHeld ?_
  rotate_left
  · intro w' hSw; (try dsimp only at hSw); go_simp
    all_goals (with_reducible rfl)
  simp only [Act.put, List.getElem_toArray, List.getElem_cons_zero, List.getElem_cons_succ, List.setIfInBounds_toArray, List.set_cons_zero, List.set_cons_succ]
  refine wpAnyH_take (i := 9) (v := ?_) rfl (by kernel_rfl) (by kernel_rfl) (by kernel_rfl) (fun _ _ _ h => h) (Or.inl ⟨by kernel_rfl, ?_⟩) hHeld ?_
  rotate_left
  · intro w' hSw; (try dsimp only at hSw); go_simp
    all_goals (with_reducible rfl)
  simp only [Act.put, List.getElem_toArray, List.getElem_cons_zero, List.getElem_cons_succ, List.setIfInBounds_toArray, List.set_cons_zero, List.set_cons_succ]
  refine wpAnyH_take (i := 10) (v := ?_) rfl (by kernel_rfl) (by kernel_rfl) (by kernel_rfl) (fun _ _ _ h => h) (Or.inl ⟨by kernel_rfl, ?_⟩) hHeld ?_
  rotate_left
  · intro w' hSw; (try dsimp only at hSw); go_simp
    all_goals (with_reducible rfl)
  simp only [Act.put, List.getElem_toArray, List.getElem_cons_zero, List.getElem_cons_succ, List.setIfInBounds_toArray, List.set_cons_zero, List.set_cons_succ]
  refine wpAnyH_take (i := 11) (v := ?_) rfl (by kernel_rfl) (by kernel_rfl) (by kernel_rfl) (fun _ _ _ h => h) (Or.inl ⟨by kernel_rfl, ?_⟩) hHeld ?_
  rotate_left
  · intro w' hSw; (try dsimp only at hSw); go_simp
    all_goals (with_reducible rfl)
  simp only [Act.put, List.getElem_toArray, List.getElem_cons_zero, List.getElem_cons_succ, List.setIfInBounds_toArray, List.set_cons_zero, List.set_cons_succ]
  refine wpAnyH_done (by kernel_rfl) ?_ _
  go_wp2_with fail
  have hu := hu8.out W3.drew.drew
  rw [← hSH.out] at hu
  refine hu.mono ?_
  clear hu
  rintro e w' ⟨rfl, rfl⟩
  cases hub : utf8 s
  · have hres := Lib.hid (show RES = .bad 5 by rw [hRES.out, hub]; rfl)
    clear hub
    go_wp2_with fail
    refine (bad_ok (w := W3.drew.drew) (hr3H.out.step (Step.drew.tail Step.drew)) 5).mono ?_
    rintro e w4 ⟨rfl, hr, hst⟩
    have hrw4 := Lib.hid hr
    have hsw4 := Lib.hid ((hbw3.out.tail (Step.drew.tail Step.drew)).tail hst)
    have hvb := hst.at (w := W3.drew.drew) hvb3H.out (by simp; omega)
    clear p0 p1 p2 p3 p4 p5 pf
    have p0 := cell_blk hvb (i := 0) rfl; have p1 := cell_blk hvb (i := 1) rfl; have p2 := cell_blk hvb (i := 2) rfl; have p3 := cell_blk hvb (i := 3) rfl; have p4 := cell_blk hvb (i := 4) rfl; have p5 := cell_blk hvb (i := 5) rfl; have pf := free_blk hvb
    have hvbH := Lib.hid hvb
    clear hr hst hvb
    go_wp2_with fail
    change bodyPost _ _ _ _ _ (set6 w4 w.heap.size (.int .i64 5) (.int .i64 0) (.string S) (.slice none 0 0) (.slice none 0 0) (.slice none 0 0))
    refine bodyPost_ret (results_to rfl rfl (set6_heap hvbH.out)) rfl ?_
    rw [hres.out]
    exact rv_bad hsw4.out hR hB hrw4.out
  · have hres := Lib.hid (show RES = .ok (.mk 5 0 s [] [] []) q by rw [hRES.out, hub]; rfl)
    obtain ⟨W5, hW5⟩ : ∃ W5, W5 = W3.drew.drew := ⟨_, rfl⟩
    rw [← hW5]
    have hst5 : Step [] id id W3 W5 := by rw [hW5]; exact Step.drew.tail Step.drew
    have hvb := hst5.at hvb3H.out (by simp)
    clear p0 p1 p2 p3 p4 p5 pf hub hW5
    have p0 := cell_blk hvb (i := 0) rfl; have p1 := cell_blk hvb (i := 1) rfl; have p2 := cell_blk hvb (i := 2) rfl; have p3 := cell_blk hvb (i := 3) rfl; have p4 := cell_blk hvb (i := 4) rfl; have p5 := cell_blk hvb (i := 5) rfl; have pf := free_blk hvb
    have hvl := lt_of_block hvb
    have hvbH := Lib.hid hvb
    have hst5H := Lib.hid hst5
    clear hvb hst5
    go_wp2_with fail
    change bodyPost _ _ _ _ _ (set6 W5 w.heap.size (.int .i64 5) (.int .i64 0) (.string S) (.slice none 0 0) (.slice none 0 0) (.slice none 0 0))
    refine bodyPost_ret (results_to rfl rfl (set6_heap hvbH.out)) rfl ?_
    rw [hres.out, hSH.out]
    exact rv_ok (hbw3.out.tail (hst5H.out.mono (fun _ h => by cases h))) hR hB (hr3H.out.step hst5H.out) (VIs.flat s (by omega) (by omega) (by have := hslH.out; omega))
end Go.Proofs.YtbkmnhogfegmcaaDoor
namespace Go.Proofs.YtbkmnhogfegmcaaDoor
open Go.RowKit


theorem rowBin {w : World} {v : Value} {l : Bs} {Q : Nat → Prop} (h : Row w v l) (hQ : ∀ k, v.ownBlock = some k → Q k) : BIn Q w v l := by
  rcases h.bytes with ⟨e, h0⟩ | ⟨g, o, cap, e, h1, h2, h3⟩
  · rw [e]; rw [h0]; exact .inl ⟨none, 0, rfl, rfl, fun _ => rfl⟩
  · rw [e]
    exact .inr ⟨g, o, cap, rfl, h1, hQ g (by rw [e]; rfl), h3⟩
theorem num1 {b : Bs} {a : Nat} (h : a < b.length) : numAt b a 1 = b[a].toNat := by
  unfold numAt
  rw [List.drop_eq_getElem_cons h, List.take_succ_cons, List.take_zero]
  simp [leVal]
set_option maxRecDepth 100000 in
set_option maxHeartbeats 4000000 in
theorem ref_bytes {w : World} {R B o c a : Nat} {b : Bs} (rec_ : Bool → Nat → Res (List (Bs × Val))) (h : RdS w R B o c b a 0) :
    Calls Tryd.prog 92 #[.pointer (some ⟨R, 0, none⟩)] w (RVP w R B o c b (decV b rec_ 5 a)) := by
  have hd : decV b rec_ 5 a = if b.length - a < 5 then .bad 2 else
    if signed 4 (numAt b a 4) < 0 then .bad 4 else
    if numAt b (a + 4) 1 ≠ 0 then .bad 4 else
    if (b.length : Int) - (a + 5 : Nat) < signed 4 (numAt b a 4) then .bad 2 else
    .ok (.mk 8 0 [] ((b.drop (a + 5)).take (signed 4 (numAt b a 4)).toNat) [] []) (a + 5 + (signed 4 (numAt b a 4)).toNat) := rfl
  rw [hd]
  clear hd
  have hle := h.le
  have hB := h.blt
  have hR := lt_of_block h.cell
  have hcap := h.cap
  have hsm := h.small
  have hne := h.ne
  obtain ⟨W0, hW0⟩ : ∃ W0, W0 = w.alloc (.cells #[.int .i64 0, .int .i64 0, (.string ⟨#[]⟩), (.slice none 0 0), (.slice none 0 0), (.slice none 0 0)] 27) := ⟨_, rfl⟩
  have hA : Step [R] id id w W0 := by rw [hW0]; exact Step.alloc _
  have hA0 : Step [] id id w W0 := by rw [hW0]; exact Step.alloc _
  have hV0 := Lib.hid (show W0.heap[w.heap.size]? = some (.cells #[.int .i64 0, .int .i64 0, (.string ⟨#[]⟩), (.slice none 0 0), (.slice none 0 0), (.slice none 0 0)] 27 (0, 0)) by rw [hW0]; exact heap_alloc_new w _)
  have h0 := Lib.hid (h.step hA0)
  have hA := Lib.hid hA
  have hWH := Lib.hid hW0
  clear h hA0 hW0
  by_cases hn : b.length - a < 5
  · rw [if_pos hn]
    go_enter Tryd.func92, Tryd.ntmps92
    go_wp2_with fail
    rw [← hWH.out]
    refine (need_no h0.out 5 (by omega)).mono ?_
    rintro e w1 ⟨rfl, hr, hst⟩
    have hrw1 := Lib.hid hr
    have hsw1 := Lib.hid ((Step.refl [R] id W0).tail hst)
    have hvb := hsw1.out.at hV0.out (by simp; omega)
    have p0 := cell_blk hvb (i := 0) rfl; have p1 := cell_blk hvb (i := 1) rfl; have p2 := cell_blk hvb (i := 2) rfl; have p3 := cell_blk hvb (i := 3) rfl; have p4 := cell_blk hvb (i := 4) rfl; have p5 := cell_blk hvb (i := 5) rfl; have pf := free_blk hvb
    have hvbH := Lib.hid hvb
    clear hr hst hvb
    go_wp2_with fail
    change bodyPost _ _ _ _ _ (set6 w1 w.heap.size (.int .i64 0) (.int .i64 0) (.string ⟨#[]⟩) (.slice none 0 0) (.slice none 0 0) (.slice none 0 0))
    refine bodyPost_ret (results_to rfl rfl (set6_heap hvbH.out)) rfl ?_
    (try rw [hres.out])
    exact rv_bad (hA.out.tail hsw1.out) hR hB hrw1.out
  rw [if_neg hn]
  have hn5 : a + 5 ≤ b.length := by omega
  have hlt4 := numAt_lt4 (show a + 4 ≤ b.length by omega)
  obtain ⟨N, hN⟩ : ∃ N, signed 4 (numAt b a 4) = N := ⟨_, rfl⟩
  rw [hN]
  obtain ⟨M, hM⟩ : ∃ M, M = numAt b a 4 := ⟨_, rfl⟩
  rw [← hM] at hlt4
  have hcv : wrap64 (wrap32 (M : Int)) = N := by rw [hM, ← hN]; exact signed_conv _ (by rw [← hM]; exact hlt4)
  have hu : (M : Int) % 4294967296 = M := by omega
  have hMH := Lib.hid hM
  have hrg := signed4_range _ (by rw [hM] at hlt4; exact hlt4)
  rw [hN] at hrg
  clear hN hM
  have hw4 : IntKind.i64.wrap ((a : Int) + 5) = (a : Int) + 5 := IntWalk.i64_in _ (by omega)
  have hw5 : IntKind.i64.wrap ((a : Int) + 4) = (a : Int) + 4 := IntWalk.i64_in _ (by omega)
  rw [num1 (show a + 4 < b.length by omega)]
  obtain ⟨y, hy⟩ : ∃ y : Nat, y = (b[a + 4]'(by omega)).toNat := ⟨_, rfl⟩
  have hy256 := (b[a + 4]'(by omega)).toNat_lt
  rw [← hy] at hy256 ⊢
  obtain ⟨RES, hR0⟩ : ∃ RES : Res Val, RES = (if N < 0 then .bad 4 else if y ≠ 0 then .bad 4 else if (b.length : Int) - (a + 5 : Nat) < N then .bad 2 else
    .ok (.mk 8 0 [] ((b.drop (a + 5)).take N.toNat) [] []) (a + 5 + N.toNat)) := ⟨_, rfl⟩
  rw [← hR0]
  have hRES := Lib.hid hR0
  have hyH := Lib.hid hy
  clear hR0 hy
  go_enter Tryd.func92, Tryd.ntmps92
  go_wp2_with fail
  rw [← hWH.out]
  refine (need_ok h0.out 5 (by omega)).mono ?_
  rintro e w1 ⟨rfl, hr, hst⟩
  have hrw1 := Lib.hid hr
  have hsw1 := Lib.hid ((Step.refl [R] id W0).tail hst)
  clear hr hst
  have c0 := cell_blk hrw1.out.cell (i := 0) rfl; have c1 := cell_blk hrw1.out.cell (i := 1) rfl; have fR := free_blk hrw1.out.cell
  have hcell : w1.cell? ⟨B, o + (a + 4), none⟩ = some (.int .u8 (y : Int)) := by rw [hyH.out]; exact hrw1.out.bytes (a + 4) (by omega)
  have hgt := Lib.hid (fun k => ref_get (w := w1.drewN k) (B := B) (o := o) (c := c) (a := a) (b := b) 4 (fun i hi => hrw1.out.bytes i hi) hsm (by omega) (by omega))
  have hmvH := Lib.hid (fun q => hrw1.out.go 5 hn5 (x := (a : Int) + 5) (by push_cast; rfl) q)
  have hi0 : (0 : Int) ≤ (a : Int) + 4 := by omega
  have hi1 : (a : Int) + 4 < (b.length : Int) := by omega
  go_wp2_with fail
  go_quiet ((go_at_call 54; rw [← hMH.out] at hgt; exact quietL (hgt.out _)))
  rw [hcv]
  go_wp2_with fail
  go_quiet (fail)
  by_cases hlow : N < 0
  · have hres := Lib.hid (show RES = .bad 4 by rw [hRES.out, if_pos hlow])
    go_wp2_with fail
    refine (bad_ok (hmvH.out _).1 4).mono ?_
    rintro e w2 ⟨rfl, hr, hst⟩
    have hrw2 := Lib.hid hr
    have hsw2 := Lib.hid ((hsw1.out.tail (hmvH.out _).2).tail hst)
    have hvb := hsw2.out.at hV0.out (by simp; omega)
    have p0 := cell_blk hvb (i := 0) rfl; have p1 := cell_blk hvb (i := 1) rfl; have p2 := cell_blk hvb (i := 2) rfl; have p3 := cell_blk hvb (i := 3) rfl; have p4 := cell_blk hvb (i := 4) rfl; have p5 := cell_blk hvb (i := 5) rfl; have pf := free_blk hvb
    have hvbH := Lib.hid hvb
    clear hr hst hvb
    go_wp2_with fail
    change bodyPost _ _ _ _ _ (set6 w2 w.heap.size (.int .i64 0) (.int .i64 0) (.string ⟨#[]⟩) (.slice none 0 0) (.slice none 0 0) (.slice none 0 0))
    refine bodyPost_ret (results_to rfl rfl (set6_heap hvbH.out)) rfl ?_
    (try rw [hres.out])
    exact rv_bad (hA.out.tail hsw2.out) hR hB hrw2.out
  have hRES := Lib.hid (hRES.out.trans (if_neg hlow))
  by_cases hy0 : y = 0
  rotate_left
  · have hres := Lib.hid (show RES = .bad 4 by rw [hRES.out, if_pos hy0])
    have hyi : ((y : Int) != 0) = true := by rw [bne_iff_ne]; omega
    go_wp2_with fail
    refine (bad_ok (hmvH.out _).1 4).mono ?_
    rintro e w2 ⟨rfl, hr, hst⟩
    have hrw2 := Lib.hid hr
    have hsw2 := Lib.hid ((hsw1.out.tail (hmvH.out _).2).tail hst)
    have hvb := hsw2.out.at hV0.out (by simp; omega)
    have p0 := cell_blk hvb (i := 0) rfl; have p1 := cell_blk hvb (i := 1) rfl; have p2 := cell_blk hvb (i := 2) rfl; have p3 := cell_blk hvb (i := 3) rfl; have p4 := cell_blk hvb (i := 4) rfl; have p5 := cell_blk hvb (i := 5) rfl; have pf := free_blk hvb
    have hvbH := Lib.hid hvb
    clear hr hst hvb
    go_wp2_with fail
    change bodyPost _ _ _ _ _ (set6 w2 w.heap.size (.int .i64 0) (.int .i64 0) (.string ⟨#[]⟩) (.slice none 0 0) (.slice none 0 0) (.slice none 0 0))
    refine bodyPost_ret (results_to rfl rfl (set6_heap hvbH.out)) rfl ?_
    (try rw [hres.out])
    exact rv_bad (hA.out.tail hsw2.out) hR hB hrw2.out
  have hRES := Lib.hid (hRES.out.trans (if_neg (fun h => h hy0)))
  have hyi : ((y : Int) != 0) = false := by rw [hy0]; rfl
  by_cases hsh : (b.length : Int) - (a + 5 : Nat) < N
  · have hres := Lib.hid (show RES = .bad 2 by rw [hRES.out, if_pos hsh])
    go_wp2_with fail
    refine (need_no (hmvH.out _).1 N (by omega)).mono ?_
    rintro e w2 ⟨rfl, hr, hst⟩
    have hrw2 := Lib.hid hr
    have hsw2 := Lib.hid ((hsw1.out.tail (hmvH.out _).2).tail hst)
    have hvb := hsw2.out.at hV0.out (by simp; omega)
    have p0 := cell_blk hvb (i := 0) rfl; have p1 := cell_blk hvb (i := 1) rfl; have p2 := cell_blk hvb (i := 2) rfl; have p3 := cell_blk hvb (i := 3) rfl; have p4 := cell_blk hvb (i := 4) rfl; have p5 := cell_blk hvb (i := 5) rfl; have pf := free_blk hvb
    have hvbH := Lib.hid hvb
    clear hr hst hvb
    go_wp2_with fail
    change bodyPost _ _ _ _ _ (set6 w2 w.heap.size (.int .i64 0) (.int .i64 0) (.string ⟨#[]⟩) (.slice none 0 0) (.slice none 0 0) (.slice none 0 0))
    refine bodyPost_ret (results_to rfl rfl (set6_heap hvbH.out)) rfl ?_
    (try rw [hres.out])
    exact rv_bad (hA.out.tail hsw2.out) hR hB hrw2.out
  have hRES := Lib.hid (hRES.out.trans (if_neg hsh))
  obtain ⟨p, hp⟩ : ∃ p, p = a + 5 := ⟨_, rfl⟩
  have hpN : (p : Int) + N ≤ b.length := by omega
  rw [← hp] at hRES hmvH
  go_wp2_with fail
  refine (need_ok (hmvH.out _).1 N (by omega)).mono ?_
  rintro e w2 ⟨rfl, hr, hst⟩
  have hrw2 := Lib.hid hr
  have hsw2 := Lib.hid ((hsw1.out.tail (hmvH.out _).2).tail hst)
  clear hr hst
  clear c0 c1 fR
  have c0 := cell_blk hrw2.out.cell (i := 0) rfl; have c1 := cell_blk hrw2.out.cell (i := 1) rfl; have fR := free_blk hrw2.out.cell
  obtain ⟨n, rfl⟩ : ∃ n : Nat, N = (n : Int) := ⟨N.toNat, by omega⟩
  obtain ⟨q, hq⟩ : ∃ q, q = p + n := ⟨_, rfl⟩
  have hw6 : IntKind.i64.wrap ((p : Int) + (n : Int)) = (q : Int) := by rw [hq]; push_cast; exact IntWalk.i64_in _ (by omega)
  have hw7 : IntKind.i64.wrap ((q : Int) - (n : Int)) = (p : Int) := by rw [show (q : Int) - (n : Int) = (p : Int) by omega]; exact IntWalk.i64_in _ (by omega)
  have hqb : q ≤ b.length := by omega
  have hpH := Lib.hid hp
  have hqH := Lib.hid hq
  clear hp hq
  go_wp2_with fail
  obtain ⟨W3, hW3⟩ : ∃ W3, W3 = w2.setCell ⟨R, 1, none⟩ (.int .i64 (q : Int)) := ⟨_, rfl⟩
  rw [← hW3]
  have hr3 : RdS W3 R B o c b q 0 := by rw [hW3]; exact hrw2.out.moved q hqb
  have hst3 : Step [R] id id w2 W3 := by rw [hW3]; exact Step.set _ _ (by simp)
  clear c0 c1 fR
  have c0 := cell_blk hr3.cell (i := 0) rfl; have c1 := cell_blk hr3.cell (i := 1) rfl; have fR := free_blk hr3.cell
  have hvb3 := (hsw2.out.tail hst3).at hV0.out (by simp; omega)
  have hs3H := Lib.hid (hsw2.out.tail hst3)
  have hr3H := Lib.hid hr3
  have hvb3H := Lib.hid hvb3
  obtain ⟨s, hs⟩ : ∃ s, s = (b.drop p).take n := ⟨_, rfl⟩
  have hsl : s.length = n := by rw [hs]; exact take_len (by have := hqH.out; omega)
  have hres := Lib.hid (show RES = .ok (.mk 8 0 [] s [] []) q by rw [hRES.out, hs, Int.toNat_natCast, hqH.out])
  have hlie := Lib.hid (show Lie W3 ⟨B, o + p, none⟩ s by rw [hs]; exact hr3.lie p n)
  have hp0 : (0 : Int) ≤ (p : Int) := by omega
  have hpq : (p : Int) ≤ (q : Int) := by have := hqH.out; omega
  have hqc : (q : Int) ≤ (c : Int) := by omega
  obtain ⟨i0, hi, hz0, hz1, hz2⟩ := info_split info_u8
  have hslH := Lib.hid hsl
  have hW3H := Lib.hid hW3
  have hsH := Lib.hid hs
  clear hst3 hr3 hvb3 hs hsl hW3
  by_cases hcp : c = p
  · have hn0 : n = 0 := by have := hqH.out; omega
    have hqp : q = p := by have := hqH.out; omega
    subst hn0
    subst hqp
    subst hcp
    have hw8 : IntKind.i64.wrap (c : Int) = (c : Int) := IntWalk.i64_in _ (by omega)
    refine wp_region_held_drew (S := (fun w' => w'.cell? ⟨R, 0, none⟩ = some (.slice (some ⟨B, o, none⟩) b.length c) ∧ w'.cell? ⟨R, 1, none⟩ = some (.int .i64 (c : Int)))) (by kernel_rfl) ⟨c0, c1⟩ (fun hHeld => ?_)
    refine wpAnyH_take (i := 0) (v := ?_) rfl (by kernel_rfl) (by kernel_rfl) (by kernel_rfl) (fun _ _ _ h => h) (Or.inl ⟨by kernel_rfl, ?_⟩) hHeld ?_
    rotate_left
    · intro w' hSw; (try dsimp only at hSw); go_simp
      all_goals (with_reducible rfl)
    simp only [Act.put, List.getElem_toArray, List.getElem_cons_zero, List.getElem_cons_succ, List.setIfInBounds_toArray, List.set_cons_zero, List.set_cons_succ]
    refine wpAnyH_take (i := 1) (v := ?_) rfl (by kernel_rfl) (by kernel_rfl) (by kernel_rfl) (fun _ _ _ h => h) (Or.inl ⟨by kernel_rfl, ?_⟩) hHeld ?_
    rotate_left
    · intro w' hSw; (try dsimp only at hSw); go_simp
      all_goals (with_reducible rfl)
    simp only [Act.put, List.getElem_toArray, List.getElem_cons_zero, List.getElem_cons_succ, List.setIfInBounds_toArray, List.set_cons_zero, List.set_cons_succ]
    refine wpAnyH_take (i := 2) (v := ?_) rfl (by kernel_rfl) (by kernel_rfl) (by kernel_rfl) (fun _ _ _ h => h) (Or.inl ⟨by kernel_rfl, ?_⟩) hHeld ?_
    rotate_left
    · intro w' hSw; (try dsimp only at hSw); go_simp
      all_goals (with_reducible rfl)
    simp only [Act.put, List.getElem_toArray, List.getElem_cons_zero, List.getElem_cons_succ, List.setIfInBounds_toArray, List.set_cons_zero, List.set_cons_succ]
    refine wpAnyH_take (i := 3) (v := ?_) rfl (by kernel_rfl) (by kernel_rfl) (by kernel_rfl) (fun _ _ _ h => h) (Or.inl ⟨by kernel_rfl, ?_⟩) hHeld ?_
    rotate_left
    · intro w' hSw; (try dsimp only at hSw); go_simp
      all_goals (with_reducible rfl)
    simp only [Act.put, List.getElem_toArray, List.getElem_cons_zero, List.getElem_cons_succ, List.setIfInBounds_toArray, List.set_cons_zero, List.set_cons_succ]
    refine wpAnyH_take (i := 4) (v := ?_) rfl (by kernel_rfl) (by kernel_rfl) (by kernel_rfl) (fun _ _ _ h => h) (Or.inl ⟨by kernel_rfl, ?_⟩) hHeld ?_
    rotate_left
    · intro w' hSw; (try dsimp only at hSw); go_simp
      all_goals (with_reducible rfl)
    simp only [Act.put, List.getElem_toArray, List.getElem_cons_zero, List.getElem_cons_succ, List.setIfInBounds_toArray, List.set_cons_zero, List.set_cons_succ]
    refine wpAnyH_take (i := 5) (v := ?_) rfl (by kernel_rfl) (by kernel_rfl) (by kernel_rfl) (fun _ _ _ h => h) (Or.inl ⟨by kernel_rfl, ?_⟩) hHeld ?_
    rotate_left
    · intro w' hSw; (try dsimp only at hSw); go_simp
      all_goals (with_reducible rfl)
    simp only [Act.put, List.getElem_toArray, List.getElem_cons_zero, List.getElem_cons_succ, List.setIfInBounds_toArray, List.set_cons_zero, List.set_cons_succ]
    refine wpAnyH_take (i := 6) (v := ?_) rfl (by kernel_rfl) (by kernel_rfl) (by kernel_rfl) (fun _ _ _ h => h) (Or.inl ⟨by kernel_rfl, ?_⟩) hHeld ?_
    rotate_left
    · intro w' hSw; (try dsimp only at hSw); go_simp
      all_goals (with_reducible rfl)
    simp only [Act.put, List.getElem_toArray, List.getElem_cons_zero, List.getElem_cons_succ, List.setIfInBounds_toArray, List.set_cons_zero, List.set_cons_succ]
    refine wpAnyH_take (i := 7) (v := ?_) rfl (by kernel_rfl) (by kernel_rfl) (by kernel_rfl) (fun _ _ _ h => h) (Or.inl ⟨by kernel_rfl, ?_⟩) hHeld ?_
    rotate_left
    · intro w' hSw; (try dsimp only at hSw); go_simp
      all_goals (with_reducible rfl)
    simp only [Act.put, List.getElem_toArray, List.getElem_cons_zero, List.getElem_cons_succ, List.setIfInBounds_toArray, List.set_cons_zero, List.set_cons_succ]
    refine wpAnyH_take (i := 8) (v := ?_) rfl (by kernel_rfl) (by kernel_rfl) (by kernel_rfl) (fun _ _ _ h => h) (Or.inl ⟨by kernel_rfl, ?_⟩) hHeld ?_
    rotate_left
    · intro w' hSw; (try dsimp only at hSw); go_simp
      all_goals (with_reducible rfl)
    simp only [Act.put, List.getElem_toArray, List.getElem_cons_zero, List.getElem_cons_succ, List.setIfInBounds_toArray, List.set_cons_zero, List.set_cons_succ]
    refine wpAnyH_take (i := 9) (v := ?_) rfl (by kernel_rfl) (by kernel_rfl) (by kernel_rfl) (fun _ _ _ h => h) (Or.inl ⟨by kernel_rfl, ?_⟩) hHeld ?_
    rotate_left
    · intro w' hSw; (try dsimp only at hSw); go_simp
      all_goals (with_reducible rfl)
    simp only [Act.put, List.getElem_toArray, List.getElem_cons_zero, List.getElem_cons_succ, List.setIfInBounds_toArray, List.set_cons_zero, List.set_cons_succ]
    refine wpAnyH_take (i := 10) (v := ?_) rfl (by kernel_rfl) (by kernel_rfl) (by kernel_rfl) (fun _ _ _ h => h) (Or.inl ⟨by kernel_rfl, ?_⟩) hHeld ?_
    rotate_left
    · intro w' hSw; (try dsimp only at hSw); go_simp
      all_goals (with_reducible rfl)
    simp only [Act.put, List.getElem_toArray, List.getElem_cons_zero, List.getElem_cons_succ, List.setIfInBounds_toArray, List.set_cons_zero, List.set_cons_succ]
    refine wpAnyH_take (i := 11) (v := ?_) rfl (by kernel_rfl) (by kernel_rfl) (by kernel_rfl) (fun _ _ _ h => h) (Or.inl ⟨by kernel_rfl, ?_⟩) hHeld ?_
    rotate_left
    · intro w' hSw; (try dsimp only at hSw); go_simp
      all_goals (with_reducible rfl)
    simp only [Act.put, List.getElem_toArray, List.getElem_cons_zero, List.getElem_cons_succ, List.setIfInBounds_toArray, List.set_cons_zero, List.set_cons_succ]
    refine wpAnyH_take (i := 12) (v := ?_) rfl (by kernel_rfl) (by kernel_rfl) (by kernel_rfl) (fun _ _ _ h => h) (Or.inl ⟨by kernel_rfl, ?_⟩) hHeld ?_
    rotate_left
    · intro w' hSw; (try dsimp only at hSw); go_simp
      all_goals (with_reducible rfl)
    simp only [Act.put, List.getElem_toArray, List.getElem_cons_zero, List.getElem_cons_succ, List.setIfInBounds_toArray, List.set_cons_zero, List.set_cons_succ]
    refine wpAnyH_take (i := 13) (v := ?_) rfl (by kernel_rfl) (by kernel_rfl) (by kernel_rfl) (fun _ _ _ h => h) (Or.inl ⟨by kernel_rfl, ?_⟩) hHeld ?_
    rotate_left
    · intro w' hSw; (try dsimp only at hSw); go_simp
      all_goals (with_reducible rfl)
    simp only [Act.put, List.getElem_toArray, List.getElem_cons_zero, List.getElem_cons_succ, List.setIfInBounds_toArray, List.set_cons_zero, List.set_cons_succ]
    refine wpAnyH_take (i := 14) (v := ?_) rfl (by kernel_rfl) (by kernel_rfl) (by kernel_rfl) (fun _ _ _ h => h) (Or.inl ⟨by kernel_rfl, ?_⟩) hHeld ?_
    rotate_left
    · intro w' hSw; (try dsimp only at hSw); go_simp
      all_goals (with_reducible rfl)
    simp only [Act.put, List.getElem_toArray, List.getElem_cons_zero, List.getElem_cons_succ, List.setIfInBounds_toArray, List.set_cons_zero, List.set_cons_succ]
    have hown0 : W3.drew.ownsRow 0 5 1 (.slice none 0 0) 0 [] := World.ownsRow_nil _ _ _ _
    have hs0 : s = [] := List.eq_nil_of_length_eq_zero hslH.out
    have hsrc : Src W3.drew 1 (.slice (some ⟨B, o, none⟩) 0 0) 0 (byteVals s) := by
      rw [hs0]
      exact ⟨rfl, .inr ⟨_, _, rfl, fun j u hu => by simp [byteVals] at hu⟩⟩
    refine wpAnyH_ready (rs := [15]) (by kernel_rfl) (by simp) ?_
    refine AllReadyH.cons (o := _) rfl (fun K hK => ?_) AllReadyH.nil
    refine wp_app (.const (.slice none 0 0)) (.tmp 77) 22 (by rfl) 5 i0 _ 1 1 Tryd.underlying22 hi hz0 hz1 hz2 rfl (by decide) (.slice none 0 0) 0 [] (by rfl) hown0 (.slice (some ⟨B, o, none⟩) 0 0) 0 (byteVals s) (by rfl) hsrc (byteVals_one s) (by omega) (by omega) ?_
    intro ad' c' w6 hown6 hgrow6 hnil6 hat6
    have e : 0 + 0 = 0 := by have := hqH.out; omega
    rw [e] at hown6 hat6 ⊢
    clear e
    have hrow6 : Row w6 (.slice ad' 0 c') s := by
      unfold Row
      rw [hslH.out]
      exact hown6
    have hst6 : Step [] id id W3 w6 := Step.drew.tail (.grown hgrow6 (fun k hk => by cases hk))
    have hVl := lt_of_block hvb3H.out
    have hb6 : BIn (fun k => w.heap.size < k) w6 (.slice ad' 0 c') s := rowBin hrow6 (fun k hk => by
      rcases hat6 with h | h
      · rw [h] at hk; cases hk
      · rw [h] at hk; cases hk; exact hVl)
    have hr6 := hr3H.out.step hst6
    have hvb6 := hst6.at hvb3H.out (by simp)
    have k0 := cell_blk hr6.cell (i := 0) rfl
    have k1 := cell_blk hr6.cell (i := 1) rfl
    have p0 := cell_blk hvb6 (i := 0) rfl; have p1 := cell_blk hvb6 (i := 1) rfl; have p2 := cell_blk hvb6 (i := 2) rfl; have p3 := cell_blk hvb6 (i := 3) rfl; have p4 := cell_blk hvb6 (i := 4) rfl; have p5 := cell_blk hvb6 (i := 5) rfl; have pf := free_blk hvb6
    have hst6H := Lib.hid hst6
    have hb6H := Lib.hid hb6
    have hr6H := Lib.hid hr6
    have hvb6H := Lib.hid hvb6
    clear hown6 hgrow6 hnil6 hat6 hrow6 hst6 hb6 hr6 hvb6 hsrc hown0 hi hz0 hz1 hz2
    refine hK.out _ _ ?_ (fun hHeld => ?_)
    · exact ⟨k0, k1⟩
    clear hK K
    refine wpAnyH_take (i := 16) (v := ?_) rfl (by kernel_rfl) (by kernel_rfl) (by kernel_rfl) (fun _ _ _ h => h) (Or.inl ⟨by kernel_rfl, ?_⟩) hHeld ?_
    rotate_left
    · intro w' hSw; (try dsimp only at hSw); go_simp
      all_goals (with_reducible rfl)
    simp only [Act.put, List.getElem_toArray, List.getElem_cons_zero, List.getElem_cons_succ, List.setIfInBounds_toArray, List.set_cons_zero, List.set_cons_succ]
    refine wpAnyH_ready (rs := [17]) (by kernel_rfl) (by simp) ?_
    refine AllReadyH.cons (o := _) rfl (fun K hK => ?_) AllReadyH.nil
    go_simp
    have hg7 : w6.grownBy (set6 w6 w.heap.size (.int .i64 8) (.int .i64 0) (.string ⟨#[]⟩) (.slice ad' 0 c') (.slice none 0 0) (.slice none 0 0)) (some w.heap.size) := set6_grown
    have hR6 := lt_of_block hr6H.out.cell
    have hk7 := hg7.block R hR6 (by simp; omega)
    change K _ (set6 w6 w.heap.size (.int .i64 8) (.int .i64 0) (.string ⟨#[]⟩) (.slice ad' 0 c') (.slice none 0 0) (.slice none 0 0))
    refine hK.out _ _ ?_ (fun hHeld => ?_)
    · exact ⟨(World.cell?_of_block (a := ⟨R, 0, none⟩) hk7).trans k0, (World.cell?_of_block (a := ⟨R, 1, none⟩) hk7).trans k1⟩
    clear hK K hg7 hk7
    refine wpAnyH_done (by kernel_rfl) ?_ _
    go_wp2_with fail
    refine bodyPost_ret (results_to rfl rfl (set6_heap hvb6H.out)) rfl ?_
    rw [hres.out]
    exact rv_ok ((hA.out.tail hs3H.out).tail (hst6H.out.mono (fun _ h => by cases h))) hR hB hr6H.out (VIs.bytes (by omega) hb6H.out (by have := hslH.out; omega))
  · refine wp_region_held_drew (S := (fun w' => w'.cell? ⟨R, 0, none⟩ = some (.slice (some ⟨B, o, none⟩) b.length c) ∧ w'.cell? ⟨R, 1, none⟩ = some (.int .i64 (q : Int)))) (by kernel_rfl) ⟨c0, c1⟩ (fun hHeld => ?_)
    refine wpAnyH_take (i := 0) (v := ?_) rfl (by kernel_rfl) (by kernel_rfl) (by kernel_rfl) (fun _ _ _ h => h) (Or.inl ⟨by kernel_rfl, ?_⟩) hHeld ?_
    rotate_left
    · intro w' hSw; (try dsimp only at hSw); go_simp
      all_goals (with_reducible rfl)
    simp only [Act.put, List.getElem_toArray, List.getElem_cons_zero, List.getElem_cons_succ, List.setIfInBounds_toArray, List.set_cons_zero, List.set_cons_succ]
    refine wpAnyH_take (i := 1) (v := ?_) rfl (by kernel_rfl) (by kernel_rfl) (by kernel_rfl) (fun _ _ _ h => h) (Or.inl ⟨by kernel_rfl, ?_⟩) hHeld ?_
    rotate_left
    · intro w' hSw; (try dsimp only at hSw); go_simp
      all_goals (with_reducible rfl)
    simp only [Act.put, List.getElem_toArray, List.getElem_cons_zero, List.getElem_cons_succ, List.setIfInBounds_toArray, List.set_cons_zero, List.set_cons_succ]
    refine wpAnyH_take (i := 2) (v := ?_) rfl (by kernel_rfl) (by kernel_rfl) (by kernel_rfl) (fun _ _ _ h => h) (Or.inl ⟨by kernel_rfl, ?_⟩) hHeld ?_
    rotate_left
    · intro w' hSw; (try dsimp only at hSw); go_simp
      all_goals (with_reducible rfl)
    simp only [Act.put, List.getElem_toArray, List.getElem_cons_zero, List.getElem_cons_succ, List.setIfInBounds_toArray, List.set_cons_zero, List.set_cons_succ]
    refine wpAnyH_take (i := 3) (v := ?_) rfl (by kernel_rfl) (by kernel_rfl) (by kernel_rfl) (fun _ _ _ h => h) (Or.inl ⟨by kernel_rfl, ?_⟩) hHeld ?_
    rotate_left
    · intro w' hSw; (try dsimp only at hSw); go_simp
      all_goals (with_reducible rfl)
    simp only [Act.put, List.getElem_toArray, List.getElem_cons_zero, List.getElem_cons_succ, List.setIfInBounds_toArray, List.set_cons_zero, List.set_cons_succ]
    refine wpAnyH_take (i := 4) (v := ?_) rfl (by kernel_rfl) (by kernel_rfl) (by kernel_rfl) (fun _ _ _ h => h) (Or.inl ⟨by kernel_rfl, ?_⟩) hHeld ?_
    rotate_left
    · intro w' hSw; (try dsimp only at hSw); go_simp
      all_goals (with_reducible rfl)
    simp only [Act.put, List.getElem_toArray, List.getElem_cons_zero, List.getElem_cons_succ, List.setIfInBounds_toArray, List.set_cons_zero, List.set_cons_succ]
    refine wpAnyH_take (i := 5) (v := ?_) rfl (by kernel_rfl) (by kernel_rfl) (by kernel_rfl) (fun _ _ _ h => h) (Or.inl ⟨by kernel_rfl, ?_⟩) hHeld ?_
    rotate_left
    · intro w' hSw; (try dsimp only at hSw); go_simp
      all_goals (with_reducible rfl)
    simp only [Act.put, List.getElem_toArray, List.getElem_cons_zero, List.getElem_cons_succ, List.setIfInBounds_toArray, List.set_cons_zero, List.set_cons_succ]
    refine wpAnyH_take (i := 6) (v := ?_) rfl (by kernel_rfl) (by kernel_rfl) (by kernel_rfl) (fun _ _ _ h => h) (Or.inl ⟨by kernel_rfl, ?_⟩) hHeld ?_
    rotate_left
    · intro w' hSw; (try dsimp only at hSw); go_simp
      all_goals (with_reducible rfl)
    simp only [Act.put, List.getElem_toArray, List.getElem_cons_zero, List.getElem_cons_succ, List.setIfInBounds_toArray, List.set_cons_zero, List.set_cons_succ]
    refine wpAnyH_take (i := 7) (v := ?_) rfl (by kernel_rfl) (by kernel_rfl) (by kernel_rfl) (fun _ _ _ h => h) (Or.inl ⟨by kernel_rfl, ?_⟩) hHeld ?_
    rotate_left
    · intro w' hSw; (try dsimp only at hSw); go_simp
      all_goals (with_reducible rfl)
    simp only [Act.put, List.getElem_toArray, List.getElem_cons_zero, List.getElem_cons_succ, List.setIfInBounds_toArray, List.set_cons_zero, List.set_cons_succ]
    refine wpAnyH_take (i := 8) (v := ?_) rfl (by kernel_rfl) (by kernel_rfl) (by kernel_rfl) (fun _ _ _ h => h) (Or.inl ⟨by kernel_rfl, ?_⟩) hHeld ?_
    rotate_left
    · intro w' hSw; (try dsimp only at hSw); go_simp
      all_goals (with_reducible rfl)
    simp only [Act.put, List.getElem_toArray, List.getElem_cons_zero, List.getElem_cons_succ, List.setIfInBounds_toArray, List.set_cons_zero, List.set_cons_succ]
    refine wpAnyH_take (i := 9) (v := ?_) rfl (by kernel_rfl) (by kernel_rfl) (by kernel_rfl) (fun _ _ _ h => h) (Or.inl ⟨by kernel_rfl, ?_⟩) hHeld ?_
    rotate_left
    · intro w' hSw; (try dsimp only at hSw); go_simp
      all_goals (with_reducible rfl)
    simp only [Act.put, List.getElem_toArray, List.getElem_cons_zero, List.getElem_cons_succ, List.setIfInBounds_toArray, List.set_cons_zero, List.set_cons_succ]
    refine wpAnyH_take (i := 10) (v := ?_) rfl (by kernel_rfl) (by kernel_rfl) (by kernel_rfl) (fun _ _ _ h => h) (Or.inl ⟨by kernel_rfl, ?_⟩) hHeld ?_
    rotate_left
    · intro w' hSw; (try dsimp only at hSw); go_simp
      all_goals (with_reducible rfl)
    simp only [Act.put, List.getElem_toArray, List.getElem_cons_zero, List.getElem_cons_succ, List.setIfInBounds_toArray, List.set_cons_zero, List.set_cons_succ]
    refine wpAnyH_take (i := 11) (v := ?_) rfl (by kernel_rfl) (by kernel_rfl) (by kernel_rfl) (fun _ _ _ h => h) (Or.inl ⟨by kernel_rfl, ?_⟩) hHeld ?_
    rotate_left
    · intro w' hSw; (try dsimp only at hSw); go_simp
      all_goals (with_reducible rfl)
    simp only [Act.put, List.getElem_toArray, List.getElem_cons_zero, List.getElem_cons_succ, List.setIfInBounds_toArray, List.set_cons_zero, List.set_cons_succ]
    refine wpAnyH_take (i := 12) (v := ?_) rfl (by kernel_rfl) (by kernel_rfl) (by kernel_rfl) (fun _ _ _ h => h) (Or.inl ⟨by kernel_rfl, ?_⟩) hHeld ?_
    rotate_left
    · intro w' hSw; (try dsimp only at hSw); go_simp
      all_goals (with_reducible rfl)
    simp only [Act.put, List.getElem_toArray, List.getElem_cons_zero, List.getElem_cons_succ, List.setIfInBounds_toArray, List.set_cons_zero, List.set_cons_succ]
    refine wpAnyH_take (i := 13) (v := ?_) rfl (by kernel_rfl) (by kernel_rfl) (by kernel_rfl) (fun _ _ _ h => h) (Or.inl ⟨by kernel_rfl, ?_⟩) hHeld ?_
    rotate_left
    · intro w' hSw; (try dsimp only at hSw); go_simp
      all_goals (with_reducible rfl)
    simp only [Act.put, List.getElem_toArray, List.getElem_cons_zero, List.getElem_cons_succ, List.setIfInBounds_toArray, List.set_cons_zero, List.set_cons_succ]
    refine wpAnyH_take (i := 14) (v := ?_) rfl (by kernel_rfl) (by kernel_rfl) (by kernel_rfl) (fun _ _ _ h => h) (Or.inl ⟨by kernel_rfl, ?_⟩) hHeld ?_
    rotate_left
    · intro w' hSw; (try dsimp only at hSw); go_simp
      all_goals (with_reducible rfl)
    simp only [Act.put, List.getElem_toArray, List.getElem_cons_zero, List.getElem_cons_succ, List.setIfInBounds_toArray, List.set_cons_zero, List.set_cons_succ]
    have hown0 : W3.drew.ownsRow 0 5 1 (.slice none 0 0) 0 [] := World.ownsRow_nil _ _ _ _
    have hsrc : Src W3.drew 1 (.slice (some ⟨B, o + p, none⟩) (q - p) (c - p)) (q - p) (byteVals s) := by
      have hql := hqH.out
      have hsl := hslH.out
      refine ⟨by rw [byteVals_length]; omega, .inr ⟨_, _, rfl, fun j u hu => ?_⟩⟩
      have hj : j < s.length := by
        rcases Nat.lt_or_ge j s.length with h | h
        · exact h
        · rw [List.getElem?_eq_none (by rw [byteVals_length]; exact h)] at hu; cases hu
      rw [byteVals_get hj] at hu
      cases hu
      exact hlie.out j hj
    refine wpAnyH_ready (rs := [15]) (by kernel_rfl) (by simp) ?_
    refine AllReadyH.cons (o := _) rfl (fun K hK => ?_) AllReadyH.nil
    refine wp_app (.const (.slice none 0 0)) (.tmp 77) 22 (by rfl) 5 i0 _ 1 1 Tryd.underlying22 hi hz0 hz1 hz2 rfl (by decide) (.slice none 0 0) 0 [] (by rfl) hown0 (.slice (some ⟨B, o + p, none⟩) (q - p) (c - p)) (q - p) (byteVals s) (by rfl) hsrc (byteVals_one s) (by omega) (by omega) ?_
    intro ad' c' w6 hown6 hgrow6 hnil6 hat6
    have e : 0 + (q - p) = n := by have := hqH.out; omega
    rw [e] at hown6 hat6 ⊢
    clear e
    have hrow6 : Row w6 (.slice ad' n c') s := by
      unfold Row
      rw [hslH.out]
      exact hown6
    have hst6 : Step [] id id W3 w6 := Step.drew.tail (.grown hgrow6 (fun k hk => by cases hk))
    have hVl := lt_of_block hvb3H.out
    have hb6 : BIn (fun k => w.heap.size < k) w6 (.slice ad' n c') s := rowBin hrow6 (fun k hk => by
      rcases hat6 with h | h
      · rw [h] at hk; cases hk
      · rw [h] at hk; cases hk; exact hVl)
    have hr6 := hr3H.out.step hst6
    have hvb6 := hst6.at hvb3H.out (by simp)
    have k0 := cell_blk hr6.cell (i := 0) rfl
    have k1 := cell_blk hr6.cell (i := 1) rfl
    have p0 := cell_blk hvb6 (i := 0) rfl; have p1 := cell_blk hvb6 (i := 1) rfl; have p2 := cell_blk hvb6 (i := 2) rfl; have p3 := cell_blk hvb6 (i := 3) rfl; have p4 := cell_blk hvb6 (i := 4) rfl; have p5 := cell_blk hvb6 (i := 5) rfl; have pf := free_blk hvb6
    have hst6H := Lib.hid hst6
    have hb6H := Lib.hid hb6
    have hr6H := Lib.hid hr6
    have hvb6H := Lib.hid hvb6
    clear hown6 hgrow6 hnil6 hat6 hrow6 hst6 hb6 hr6 hvb6 hsrc hown0 hi hz0 hz1 hz2
    refine hK.out _ _ ?_ (fun hHeld => ?_)
    · exact ⟨k0, k1⟩
    clear hK K
    refine wpAnyH_take (i := 16) (v := ?_) rfl (by kernel_rfl) (by kernel_rfl) (by kernel_rfl) (fun _ _ _ h => h) (Or.inl ⟨by kernel_rfl, ?_⟩) hHeld ?_
    rotate_left
    · intro w' hSw; (try dsimp only at hSw); go_simp
      all_goals (with_reducible rfl)
    simp only [Act.put, List.getElem_toArray, List.getElem_cons_zero, List.getElem_cons_succ, List.setIfInBounds_toArray, List.set_cons_zero, List.set_cons_succ]
    refine wpAnyH_ready (rs := [17]) (by kernel_rfl) (by simp) ?_
    refine AllReadyH.cons (o := _) rfl (fun K hK => ?_) AllReadyH.nil
    go_simp
    have hg7 : w6.grownBy (set6 w6 w.heap.size (.int .i64 8) (.int .i64 0) (.string ⟨#[]⟩) (.slice ad' n c') (.slice none 0 0) (.slice none 0 0)) (some w.heap.size) := set6_grown
    have hR6 := lt_of_block hr6H.out.cell
    have hk7 := hg7.block R hR6 (by simp; omega)
    change K _ (set6 w6 w.heap.size (.int .i64 8) (.int .i64 0) (.string ⟨#[]⟩) (.slice ad' n c') (.slice none 0 0) (.slice none 0 0))
    refine hK.out _ _ ?_ (fun hHeld => ?_)
    · exact ⟨(World.cell?_of_block (a := ⟨R, 0, none⟩) hk7).trans k0, (World.cell?_of_block (a := ⟨R, 1, none⟩) hk7).trans k1⟩
    clear hK K hg7 hk7
    refine wpAnyH_done (by kernel_rfl) ?_ _
    go_wp2_with fail
    refine bodyPost_ret (results_to rfl rfl (set6_heap hvb6H.out)) rfl ?_
    rw [hres.out]
    exact rv_ok ((hA.out.tail hs3H.out).tail (hst6H.out.mono (fun _ h => by cases h))) hR hB hr6H.out (VIs.bytes (by omega) hb6H.out (by have := hslH.out; omega))
end Go.Proofs.YtbkmnhogfegmcaaDoor
