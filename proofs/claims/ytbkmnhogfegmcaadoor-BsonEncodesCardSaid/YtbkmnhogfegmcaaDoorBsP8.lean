/- The reference: own: documents. -/
import Derived.Test.YtbkmnhogfegmcaaDoorBsP7
import Derived.Test.YtbkmnhogfegmcaaDoorBsO4
set_option linter.unusedVariables false
set_option linter.unusedSimpArgs false
namespace Go.Proofs.YtbkmnhogfegmcaaDoor
open Go.RowKit

theorem okV_doc {d : Nat} {n : Int} {s b : Bs} {f : List (Bs × Val)} {l : List Val} : okV d (.mk 6 n s b f l) = (bareB (.mk 6 n s b f l) false false false true false && (decide (d + 1 ≤ 32) && okFs (d + 1) [] f)) ∧ encV (.mk 6 n s b f l) = wrapDoc (encFs f) := by
  rw [okV, encV]; simp [Val.plain, bareB, codeOf]
set_option maxRecDepth 100000 in
set_option maxHeartbeats 8000000 in
theorem own_doc (N : Nat) (ih : OwnC N) {P : Nat → Prop} {w : World} {d : Nat} {k n : Int} {s b : Bs} {f : List (Bs × Val)} {l : List Val} {cs : List Value} (hk : k = 6) (hx : VIs P w (.mk k n s b f l) cs) (hfs : ∀ j (h : j < f.length), SizeOf.sizeOf f[j].2 < N) (hw : weightFs f ≤ 3000) (hd : d ≤ 40) :
    Calls Tryd.prog 35 #[.agg cs.toArray, .int .i64 ((d : Int) + 1)] w (OwnP P (.mk k n s b f l) d w) := by
  obtain ⟨bv, fa, fc, la, lc, hcs, hb, ⟨hfc, hlc, hfz, hlz⟩, ⟨hk1, hk2, hn1, hn2⟩, -, hf, hl⟩ := hx.cells
  obtain ⟨ba, bc, rfl⟩ := hb.shape
  simp only [Val.kind, Val.num, Val.s, Val.b, Val.f, Val.l] at *
  obtain ⟨S0, hS0⟩ : ∃ k, k = strOf s := ⟨_, rfl⟩
  obtain ⟨bn, hbn⟩ : ∃ k, k = b.length := ⟨_, rfl⟩
  obtain ⟨ln, hln⟩ : ∃ k, k = l.length := ⟨_, rfl⟩
  obtain ⟨fn, hfn⟩ : ∃ k, k = f.length := ⟨_, rfl⟩
  rw [← hS0, ← hbn, ← hln, ← hfn] at hcs
  rw [← hbn] at hb
  subst hcs
  obtain ⟨W1, hW1⟩ : ∃ W1, W1 = w.alloc (.cells #[.int .i64 k, .int .i64 n, .string S0, .slice ba bn bc, .slice fa fn fc, .slice la ln lc] 27) := ⟨_, rfl⟩
  have hst1 : Step [] id id w W1 := by rw [hW1]; exact Step.alloc _
  have hV : W1.heap[w.heap.size]? = some (.cells #[.int .i64 k, .int .i64 n, .string S0, .slice ba bn bc, .slice fa fn fc, .slice la ln lc] 27 (0, 0)) := by rw [hW1]; exact heap_alloc_new _ _
  have hx1 := hx.keep (P2 := P) (w' := W1) (fun _ h => h) (fun k hP hk => (hst1.keep k hk (by simp)).2)
  obtain ⟨v0, v1, v2, v3, v4, v5⟩ := cells_of6P hV
  have hVl : w.heap.size < W1.heap.size := lt_of_block hV
  have hVH := Lib.hid hV
  have hx1H := Lib.hid hx1
  have hW1H := Lib.hid hW1
  have hst1H := Lib.hid hst1
  have hS0H := Lib.hid hS0
  have hbnH := Lib.hid hbn
  have hlnH := Lib.hid hln
  have hfnH := Lib.hid hfn
  have hbH := Lib.hid hb
  have hfH := Lib.hid hf
  have hlH := Lib.hid hl
  clear hx hb hf hl hS0 hbn hln hfn hst1 hV hx1 hW1 hfc hlc hfz hlz hk1 hk2
  subst hk
  obtain ⟨he, hen⟩ := okV_doc (d := d) (n := n) (s := s) (b := b) (f := f) (l := l)
  have hbc := Lib.hid (ref_bare_f hx1H.out)
  have heH := Lib.hid he
  have henH := Lib.hid hen
  have hfsH := Lib.hid hfs
  have hwH := Lib.hid hw
  clear he hen hfs hw
  obtain ⟨r, hr⟩ : ∃ r, r = bareB (.mk 6 n s b f l) false false false true false := ⟨_, rfl⟩
  have hrH := Lib.hid hr
  clear hr
  go_enter Tryd.func35, Tryd.ntmps35
  go_wp2_with fail
  rw [← hW1H.out]
  refine hbc.out.mono ?_
  rintro e w2 ⟨rfl, hs2⟩
  rw [← hrH.out]
  obtain ⟨v0, v1, v2, v3, v4, v5⟩ := cells_of6P (hs2.at hVH.out (by simp))
  have hVl2 : w.heap.size < w2.heap.size := World.block_lt_of_cell? w2 _ v0
  have hs2H := Lib.hid hs2
  clear hs2
  cases r
  · have hokH := Lib.hid (show okV d (.mk 6 n s b f l) = false by rw [heH.out, ← hrH.out]; rfl)
    go_wp2_with fail
    go_ret2
    exact ⟨none, 0, 0, by rw [hokH.out]; rfl, fun h => absurd h (by rw [hokH.out]; simp), hst1H.out.tail hs2H.out⟩
  · by_cases h32 : d + 1 ≤ 32
    · have hdi : ¬ (32 : Int) < (d : Int) + 1 := by omega
      have hc := Lib.hid (fields_step N ih (P := P) (w := w2) (fc := fc) (d := d + 1) hfsH.out (by have := weightFs_lenP f; have := hwH.out; omega) (fun j h => by have := weightFs_name2 f j h; have := hwH.out; omega) (by have h2 := enc_lenFs f (by have := hwH.out; omega); have := hwH.out; omega) (by omega) hfnH.out (FIs.keep (P2 := P) (fun _ h => h) (fun k hP hk => ((hst1H.out.tail hs2H.out).keep k hk (by simp)).2) f fa 0 hfH.out))
      go_wp2_with fail
      refine hc.out.mono ?_
      rintro e w3 ⟨xa, xn, xc, rfl, hrow, hs3⟩
      have hrowH := Lib.hid hrow
      have hs3H := Lib.hid hs3
      clear hrow hs3 v0 v1 v2 v3 v4 v5
      go_wp2_with fail
      go_ret2
      have ho : okV d (.mk 6 n s b f l) = okFs (d + 1) [] f := by rw [heH.out, ← hrH.out, decide_eq_true h32]; rfl
      refine ⟨xa, xn, xc, by rw [ho]; rfl, fun h => ?_, (hst1H.out.tail hs2H.out).tail hs3H.out⟩
      rw [ho] at h
      obtain ⟨h1, h2⟩ := hrowH.out h
      rw [henH.out]
      exact ⟨h1.len, row_bin h1 (fun k hk => .inr (by have := h2 k hk; omega))⟩
    · have hdi : (32 : Int) < (d : Int) + 1 := by omega
      have hokH := Lib.hid (show okV d (.mk 6 n s b f l) = false by rw [heH.out, ← hrH.out, decide_eq_false h32]; rfl)
      go_wp2_with fail
      go_ret2
      exact ⟨none, 0, 0, by rw [hokH.out]; rfl, fun h => absurd h (by rw [hokH.out]; simp), hst1H.out.tail hs2H.out⟩
end Go.Proofs.YtbkmnhogfegmcaaDoor
