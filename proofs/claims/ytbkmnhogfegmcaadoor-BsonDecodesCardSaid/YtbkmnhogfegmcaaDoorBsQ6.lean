/- The reference's reader: values: floats, those without parts, those of other readers. -/
import Derived.Test.YtbkmnhogfegmcaaDoorBsQ5
set_option linter.unusedVariables false
set_option linter.unusedSimpArgs false
namespace Go.Proofs.YtbkmnhogfegmcaaDoor
open Go.RowKit


def docV (items : Bool) (f : List (Bs × Val)) : Val := match items with
  | true => .list (f.map (·.2))
  | false => .doc f
/-- How the reference's document ends, within so many. -/
def docR (b : Bs) (fuel deep : Nat) (items : Bool) (a : Nat) : Res (List (Bs × Val)) :=
  if deep = 1 ∧ ¬ b.length - a < 4 ∧ ¬ signed 4 (numAt b a 4) < 5 ∧ signed 4 (numAt b a 4) ≠ b.length then .bad 4 else decDoc b fuel deep items a
def RDoc (fuel : Nat) : Prop := ∀ (w : World) (R B o c : Nat) (b : Bs) (a deep : Nat) (items : Bool), 34 ≤ fuel + deep → 1 ≤ deep → deep ≤ 1000 → (items = true → 2 ≤ deep) → RdS w R B o c b a 0 →
  Calls Tryd.prog 28 #[.pointer (some ⟨R, 0, none⟩), .bool items, .int .i64 deep] w (RVP w R B o c b ((docR b fuel deep items a).bind fun f a => .ok (docV items f) a))
set_option maxRecDepth 100000 in
set_option maxHeartbeats 4000000 in
theorem val_1 {w : World} {R B o c a : Nat} {b : Bs} (deep : Int) (rec_ : Bool → Nat → Res (List (Bs × Val))) (h : RdS w R B o c b a 0) :
    Calls Tryd.prog 59 #[.pointer (some ⟨R, 0, none⟩), .int .u8 1, .int .i64 deep] w (RVP w R B o c b (decV b rec_ 1 a)) := by
  have hd : decV b rec_ 1 a = if b.length - a < 8 then .bad 2 else .bad 8 := rfl
  rw [hd]
  clear hd
  have hle := h.le
  have hB := h.blt
  have hR := lt_of_block h.cell
  have hcap := h.cap
  have hsm := h.small
  have hne := h.ne
  obtain ⟨W0, hW0⟩ : ∃ W0, W0 = w.alloc (.cells #[.int .i64 0, .int .i64 0, (.string ⟨#[]⟩), (.slice none 0 0), (.slice none 0 0), (.slice none 0 0)] 27) := ⟨_, rfl⟩
  have hA0 : Step [] id id w W0 := by rw [hW0]; exact Step.alloc _
  have hV0 := Lib.hid (show W0.heap[w.heap.size]? = some (.cells #[.int .i64 0, .int .i64 0, (.string ⟨#[]⟩), (.slice none 0 0), (.slice none 0 0), (.slice none 0 0)] 27 (0, 0)) by rw [hW0]; exact heap_alloc_new w _)
  have h0 := Lib.hid (h.step hA0)
  have hA := Lib.hid (show Step [R] id id w W0 by rw [hW0]; exact Step.alloc _)
  have hWH := Lib.hid hW0
  clear h hA0 hW0
  by_cases hn : b.length - a < 8
  · rw [if_pos hn]
    go_enter Tryd.func59, Tryd.ntmps59
    go_wp2_with fail
    rw [← hWH.out]
    refine (need_no h0.out 8 (by omega)).mono ?_
    rintro e w1 ⟨rfl, hr, hst⟩
    have hrw1 := Lib.hid hr
    have hsw1 := Lib.hid ((Step.refl [R] id W0).tail hst)
    have hvb := hsw1.out.at hV0.out (by simp; omega)
    have p0 := cell_blk hvb (i := 0) rfl; have p1 := cell_blk hvb (i := 1) rfl; have p2 := cell_blk hvb (i := 2) rfl; have p3 := cell_blk hvb (i := 3) rfl; have p4 := cell_blk hvb (i := 4) rfl; have p5 := cell_blk hvb (i := 5) rfl; have pf := free_blk hvb
    have hvbH := Lib.hid hvb
    clear hr hst hvb
    go_wp2_with fail
    change bodyPost _ _ _ _ _ (set6 w1 w.heap.size (.int .i64 0) (.int .i64 0) (.string ⟨#[]⟩) (.slice none 0 0) (.slice none 0 0) (.slice none 0 0))
    refine bodyPost_ret (results_to rfl rfl (set6_heap hvbH.out)) rfl ?_
    (try rw [hres.out])
    exact rv_bad (hA.out.tail hsw1.out) hR hB hrw1.out
  · rw [if_neg hn]
    go_enter Tryd.func59, Tryd.ntmps59
    go_wp2_with fail
    rw [← hWH.out]
    refine (need_ok h0.out 8 (by omega)).mono ?_
    rintro e w1 ⟨rfl, hr, hst⟩
    have hrw1 := Lib.hid hr
    have hsw1 := Lib.hid ((Step.refl [R] id W0).tail hst)
    clear hr hst
    go_wp2_with fail
    refine (bad_ok hrw1.out 8).mono ?_
    rintro e w2 ⟨rfl, hr, hst⟩
    have hrw2 := Lib.hid hr
    have hsw2 := Lib.hid (hsw1.out.tail hst)
    have hvb := hsw2.out.at hV0.out (by simp; omega)
    have p0 := cell_blk hvb (i := 0) rfl; have p1 := cell_blk hvb (i := 1) rfl; have p2 := cell_blk hvb (i := 2) rfl; have p3 := cell_blk hvb (i := 3) rfl; have p4 := cell_blk hvb (i := 4) rfl; have p5 := cell_blk hvb (i := 5) rfl; have pf := free_blk hvb
    have hvbH := Lib.hid hvb
    clear hr hst hvb
    go_wp2_with fail
    change bodyPost _ _ _ _ _ (set6 w2 w.heap.size (.int .i64 0) (.int .i64 0) (.string ⟨#[]⟩) (.slice none 0 0) (.slice none 0 0) (.slice none 0 0))
    refine bodyPost_ret (results_to rfl rfl (set6_heap hvbH.out)) rfl ?_
    (try rw [hres.out])
    exact rv_bad (hA.out.tail hsw2.out) hR hB hrw2.out
set_option maxRecDepth 100000 in
set_option maxHeartbeats 4000000 in
theorem val_19 {w : World} {R B o c a : Nat} {b : Bs} (deep : Int) (rec_ : Bool → Nat → Res (List (Bs × Val))) (h : RdS w R B o c b a 0) :
    Calls Tryd.prog 59 #[.pointer (some ⟨R, 0, none⟩), .int .u8 19, .int .i64 deep] w (RVP w R B o c b (decV b rec_ 19 a)) := by
  have hd : decV b rec_ 19 a = if b.length - a < 16 then .bad 2 else .bad 8 := rfl
  rw [hd]
  clear hd
  have hle := h.le
  have hB := h.blt
  have hR := lt_of_block h.cell
  have hcap := h.cap
  have hsm := h.small
  have hne := h.ne
  obtain ⟨W0, hW0⟩ : ∃ W0, W0 = w.alloc (.cells #[.int .i64 0, .int .i64 0, (.string ⟨#[]⟩), (.slice none 0 0), (.slice none 0 0), (.slice none 0 0)] 27) := ⟨_, rfl⟩
  have hA0 : Step [] id id w W0 := by rw [hW0]; exact Step.alloc _
  have hV0 := Lib.hid (show W0.heap[w.heap.size]? = some (.cells #[.int .i64 0, .int .i64 0, (.string ⟨#[]⟩), (.slice none 0 0), (.slice none 0 0), (.slice none 0 0)] 27 (0, 0)) by rw [hW0]; exact heap_alloc_new w _)
  have h0 := Lib.hid (h.step hA0)
  have hA := Lib.hid (show Step [R] id id w W0 by rw [hW0]; exact Step.alloc _)
  have hWH := Lib.hid hW0
  clear h hA0 hW0
  by_cases hn : b.length - a < 16
  · rw [if_pos hn]
    go_enter Tryd.func59, Tryd.ntmps59
    go_wp2_with fail
    rw [← hWH.out]
    refine (need_no h0.out 16 (by omega)).mono ?_
    rintro e w1 ⟨rfl, hr, hst⟩
    have hrw1 := Lib.hid hr
    have hsw1 := Lib.hid ((Step.refl [R] id W0).tail hst)
    have hvb := hsw1.out.at hV0.out (by simp; omega)
    have p0 := cell_blk hvb (i := 0) rfl; have p1 := cell_blk hvb (i := 1) rfl; have p2 := cell_blk hvb (i := 2) rfl; have p3 := cell_blk hvb (i := 3) rfl; have p4 := cell_blk hvb (i := 4) rfl; have p5 := cell_blk hvb (i := 5) rfl; have pf := free_blk hvb
    have hvbH := Lib.hid hvb
    clear hr hst hvb
    go_wp2_with fail
    change bodyPost _ _ _ _ _ (set6 w1 w.heap.size (.int .i64 0) (.int .i64 0) (.string ⟨#[]⟩) (.slice none 0 0) (.slice none 0 0) (.slice none 0 0))
    refine bodyPost_ret (results_to rfl rfl (set6_heap hvbH.out)) rfl ?_
    (try rw [hres.out])
    exact rv_bad (hA.out.tail hsw1.out) hR hB hrw1.out
  · rw [if_neg hn]
    go_enter Tryd.func59, Tryd.ntmps59
    go_wp2_with fail
    rw [← hWH.out]
    refine (need_ok h0.out 16 (by omega)).mono ?_
    rintro e w1 ⟨rfl, hr, hst⟩
    have hrw1 := Lib.hid hr
    have hsw1 := Lib.hid ((Step.refl [R] id W0).tail hst)
    clear hr hst
    go_wp2_with fail
    refine (bad_ok hrw1.out 8).mono ?_
    rintro e w2 ⟨rfl, hr, hst⟩
    have hrw2 := Lib.hid hr
    have hsw2 := Lib.hid (hsw1.out.tail hst)
    have hvb := hsw2.out.at hV0.out (by simp; omega)
    have p0 := cell_blk hvb (i := 0) rfl; have p1 := cell_blk hvb (i := 1) rfl; have p2 := cell_blk hvb (i := 2) rfl; have p3 := cell_blk hvb (i := 3) rfl; have p4 := cell_blk hvb (i := 4) rfl; have p5 := cell_blk hvb (i := 5) rfl; have pf := free_blk hvb
    have hvbH := Lib.hid hvb
    clear hr hst hvb
    go_wp2_with fail
    change bodyPost _ _ _ _ _ (set6 w2 w.heap.size (.int .i64 0) (.int .i64 0) (.string ⟨#[]⟩) (.slice none 0 0) (.slice none 0 0) (.slice none 0 0))
    refine bodyPost_ret (results_to rfl rfl (set6_heap hvbH.out)) rfl ?_
    (try rw [hres.out])
    exact rv_bad (hA.out.tail hsw2.out) hR hB hrw2.out
set_option maxRecDepth 100000 in
set_option maxHeartbeats 4000000 in
theorem val_10 {w : World} {R B o c a : Nat} {b : Bs} (deep : Int) (rec_ : Bool → Nat → Res (List (Bs × Val))) (h : RdS w R B o c b a 0) :
    Calls Tryd.prog 59 #[.pointer (some ⟨R, 0, none⟩), .int .u8 10, .int .i64 deep] w (RVP w R B o c b (decV b rec_ 10 a)) := by
  have hd : decV b rec_ 10 a = .ok (.bare 2) a := rfl
  rw [hd]
  clear hd
  have hk := Lib.hid h
  clear h
  go_enter Tryd.func59, Tryd.ntmps59
  go_wp2_with fail
  have hvb := heap_alloc_new w (.cells #[.int .i64 2, .int .i64 0, (.string ⟨#[]⟩), (.slice none 0 0), (.slice none 0 0), (.slice none 0 0)] 27)
  exact bodyPost_ret (results_to rfl rfl hvb) rfl ⟨Step.alloc _, _, rfl, VIs.flat [] (by omega) (by omega) (by simp), hk.out.step (Step.alloc _)⟩
set_option maxRecDepth 100000 in
set_option maxHeartbeats 4000000 in
theorem val_255 {w : World} {R B o c a : Nat} {b : Bs} (deep : Int) (rec_ : Bool → Nat → Res (List (Bs × Val))) (h : RdS w R B o c b a 0) :
    Calls Tryd.prog 59 #[.pointer (some ⟨R, 0, none⟩), .int .u8 255, .int .i64 deep] w (RVP w R B o c b (decV b rec_ 255 a)) := by
  have hd : decV b rec_ 255 a = .ok (.bare 1) a := rfl
  rw [hd]
  clear hd
  have hk := Lib.hid h
  clear h
  go_enter Tryd.func59, Tryd.ntmps59
  go_wp2_with fail
  have hvb := heap_alloc_new w (.cells #[.int .i64 1, .int .i64 0, (.string ⟨#[]⟩), (.slice none 0 0), (.slice none 0 0), (.slice none 0 0)] 27)
  exact bodyPost_ret (results_to rfl rfl hvb) rfl ⟨Step.alloc _, _, rfl, VIs.flat [] (by omega) (by omega) (by simp), hk.out.step (Step.alloc _)⟩
set_option maxRecDepth 100000 in
set_option maxHeartbeats 4000000 in
theorem val_127 {w : World} {R B o c a : Nat} {b : Bs} (deep : Int) (rec_ : Bool → Nat → Res (List (Bs × Val))) (h : RdS w R B o c b a 0) :
    Calls Tryd.prog 59 #[.pointer (some ⟨R, 0, none⟩), .int .u8 127, .int .i64 deep] w (RVP w R B o c b (decV b rec_ 127 a)) := by
  have hd : decV b rec_ 127 a = .ok (.bare 12) a := rfl
  rw [hd]
  clear hd
  have hk := Lib.hid h
  clear h
  go_enter Tryd.func59, Tryd.ntmps59
  go_wp2_with fail
  have hvb := heap_alloc_new w (.cells #[.int .i64 12, .int .i64 0, (.string ⟨#[]⟩), (.slice none 0 0), (.slice none 0 0), (.slice none 0 0)] 27)
  exact bodyPost_ret (results_to rfl rfl hvb) rfl ⟨Step.alloc _, _, rfl, VIs.flat [] (by omega) (by omega) (by simp), hk.out.step (Step.alloc _)⟩
set_option maxRecDepth 100000 in
set_option maxHeartbeats 4000000 in
theorem val_2 {w : World} {R B o c a : Nat} {b : Bs} (deep : Int) (rec_ : Bool → Nat → Res (List (Bs × Val))) (h : RdS w R B o c b a 0) :
    Calls Tryd.prog 59 #[.pointer (some ⟨R, 0, none⟩), .int .u8 2, .int .i64 deep] w (RVP w R B o c b (decV b rec_ 2 a)) := by
  have hle := h.le
  have hB := h.blt
  have hR := lt_of_block h.cell
  have hcap := h.cap
  have hsm := h.small
  have hne := h.ne
  obtain ⟨W0, hW0⟩ : ∃ W0, W0 = w.alloc (.cells #[.int .i64 0, .int .i64 0, (.string ⟨#[]⟩), (.slice none 0 0), (.slice none 0 0), (.slice none 0 0)] 27) := ⟨_, rfl⟩
  have hA0 : Step [] id id w W0 := by rw [hW0]; exact Step.alloc _
  have hV0 := Lib.hid (show W0.heap[w.heap.size]? = some (.cells #[.int .i64 0, .int .i64 0, (.string ⟨#[]⟩), (.slice none 0 0), (.slice none 0 0), (.slice none 0 0)] 27 (0, 0)) by rw [hW0]; exact heap_alloc_new w _)
  have h0 := Lib.hid (h.step hA0)
  have hA := Lib.hid (show Step [R] id id w W0 by rw [hW0]; exact Step.alloc _)
  have hWH := Lib.hid hW0
  clear h hA0 hW0
  have hc := ref_text rec_ h0.out
  obtain ⟨RES, hRES⟩ : ∃ RES, RES = decV b rec_ 2 a := ⟨_, rfl⟩
  rw [← hRES] at hc ⊢
  have hcall := Lib.hid hc
  clear hc hRES
  go_enter Tryd.func59, Tryd.ntmps59
  go_wp2_with fail
  rw [← hWH.out]
  refine hcall.out.mono ?_
  rintro e w1 hP
  cases hr : RES with
  | ok v a2 =>
    rw [hr] at hP
    obtain ⟨hst, cs, rfl, hx, hr1⟩ := hP
    obtain ⟨s0, ba, bn, bc, fa, fn, fc, la, ln, lc, hcs, -⟩ := hx.six
    obtain ⟨n0, hn0⟩ : ∃ k, k = v.num := ⟨_, rfl⟩
    obtain ⟨k0, hk0⟩ : ∃ k, k = v.kind := ⟨_, rfl⟩
    rw [← hk0, ← hn0] at hcs
    subst hcs
    have hvb := hst.at hV0.out (by simp; omega)
    have p0 := cell_blk hvb (i := 0) rfl; have p1 := cell_blk hvb (i := 1) rfl; have p2 := cell_blk hvb (i := 2) rfl; have p3 := cell_blk hvb (i := 3) rfl; have p4 := cell_blk hvb (i := 4) rfl; have p5 := cell_blk hvb (i := 5) rfl; have pf := free_blk hvb
    have hvl := lt_of_block hvb
    have hvbH := Lib.hid hvb
    have hstH := Lib.hid hst
    have hxH := Lib.hid hx
    have hr1H := Lib.hid hr1
    have hrH := Lib.hid hr
    clear hvb hst hx hr1 hr hn0 hk0
    go_wp2_with fail
    change bodyPost _ _ _ _ _ (set6 w1 w.heap.size (.int .i64 k0) (.int .i64 n0) (.string s0) (.slice ba bn bc) (.slice fa fn fc) (.slice la ln lc))
    refine bodyPost_ret (results_to rfl rfl (set6_heap hvbH.out)) rfl ?_
    rw [hrH.out]
    exact rv_ok (hA.out.tail hstH.out) hR hB hr1H.out (hxH.out.keep (fun k hk => by have := lt_of_block hV0.out; omega) (fun _ _ _ => rfl))
  | bad n =>
    rw [hr] at hP
    obtain ⟨hst, k0, n0, s0, ba, bn, bc, fa, fn, fc, la, ln, lc, rfl, a2, hr1⟩ := hP
    have hvb := hst.at hV0.out (by simp; omega)
    have p0 := cell_blk hvb (i := 0) rfl; have p1 := cell_blk hvb (i := 1) rfl; have p2 := cell_blk hvb (i := 2) rfl; have p3 := cell_blk hvb (i := 3) rfl; have p4 := cell_blk hvb (i := 4) rfl; have p5 := cell_blk hvb (i := 5) rfl; have pf := free_blk hvb
    have hvl := lt_of_block hvb
    have hvbH := Lib.hid hvb
    have hstH := Lib.hid hst
    have hr1H := Lib.hid hr1
    have hrH := Lib.hid hr
    clear hvb hst hr1 hr
    go_wp2_with fail
    change bodyPost _ _ _ _ _ (set6 w1 w.heap.size (.int .i64 k0) (.int .i64 n0) (.string s0) (.slice ba bn bc) (.slice fa fn fc) (.slice la ln lc))
    refine bodyPost_ret (results_to rfl rfl (set6_heap hvbH.out)) rfl ?_
    rw [hrH.out]
    exact rv_bad (hA.out.tail hstH.out) hR hB hr1H.out
set_option maxRecDepth 100000 in
set_option maxHeartbeats 4000000 in
theorem val_5 {w : World} {R B o c a : Nat} {b : Bs} (deep : Int) (rec_ : Bool → Nat → Res (List (Bs × Val))) (h : RdS w R B o c b a 0) :
    Calls Tryd.prog 59 #[.pointer (some ⟨R, 0, none⟩), .int .u8 5, .int .i64 deep] w (RVP w R B o c b (decV b rec_ 5 a)) := by
  have hle := h.le
  have hB := h.blt
  have hR := lt_of_block h.cell
  have hcap := h.cap
  have hsm := h.small
  have hne := h.ne
  obtain ⟨W0, hW0⟩ : ∃ W0, W0 = w.alloc (.cells #[.int .i64 0, .int .i64 0, (.string ⟨#[]⟩), (.slice none 0 0), (.slice none 0 0), (.slice none 0 0)] 27) := ⟨_, rfl⟩
  have hA0 : Step [] id id w W0 := by rw [hW0]; exact Step.alloc _
  have hV0 := Lib.hid (show W0.heap[w.heap.size]? = some (.cells #[.int .i64 0, .int .i64 0, (.string ⟨#[]⟩), (.slice none 0 0), (.slice none 0 0), (.slice none 0 0)] 27 (0, 0)) by rw [hW0]; exact heap_alloc_new w _)
  have h0 := Lib.hid (h.step hA0)
  have hA := Lib.hid (show Step [R] id id w W0 by rw [hW0]; exact Step.alloc _)
  have hWH := Lib.hid hW0
  clear h hA0 hW0
  have hc := ref_bytes rec_ h0.out
  obtain ⟨RES, hRES⟩ : ∃ RES, RES = decV b rec_ 5 a := ⟨_, rfl⟩
  rw [← hRES] at hc ⊢
  have hcall := Lib.hid hc
  clear hc hRES
  go_enter Tryd.func59, Tryd.ntmps59
  go_wp2_with fail
  rw [← hWH.out]
  refine hcall.out.mono ?_
  rintro e w1 hP
  cases hr : RES with
  | ok v a2 =>
    rw [hr] at hP
    obtain ⟨hst, cs, rfl, hx, hr1⟩ := hP
    obtain ⟨s0, ba, bn, bc, fa, fn, fc, la, ln, lc, hcs, -⟩ := hx.six
    obtain ⟨n0, hn0⟩ : ∃ k, k = v.num := ⟨_, rfl⟩
    obtain ⟨k0, hk0⟩ : ∃ k, k = v.kind := ⟨_, rfl⟩
    rw [← hk0, ← hn0] at hcs
    subst hcs
    have hvb := hst.at hV0.out (by simp; omega)
    have p0 := cell_blk hvb (i := 0) rfl; have p1 := cell_blk hvb (i := 1) rfl; have p2 := cell_blk hvb (i := 2) rfl; have p3 := cell_blk hvb (i := 3) rfl; have p4 := cell_blk hvb (i := 4) rfl; have p5 := cell_blk hvb (i := 5) rfl; have pf := free_blk hvb
    have hvl := lt_of_block hvb
    have hvbH := Lib.hid hvb
    have hstH := Lib.hid hst
    have hxH := Lib.hid hx
    have hr1H := Lib.hid hr1
    have hrH := Lib.hid hr
    clear hvb hst hx hr1 hr hn0 hk0
    go_wp2_with fail
    change bodyPost _ _ _ _ _ (set6 w1 w.heap.size (.int .i64 k0) (.int .i64 n0) (.string s0) (.slice ba bn bc) (.slice fa fn fc) (.slice la ln lc))
    refine bodyPost_ret (results_to rfl rfl (set6_heap hvbH.out)) rfl ?_
    rw [hrH.out]
    exact rv_ok (hA.out.tail hstH.out) hR hB hr1H.out (hxH.out.keep (fun k hk => by have := lt_of_block hV0.out; omega) (fun _ _ _ => rfl))
  | bad n =>
    rw [hr] at hP
    obtain ⟨hst, k0, n0, s0, ba, bn, bc, fa, fn, fc, la, ln, lc, rfl, a2, hr1⟩ := hP
    have hvb := hst.at hV0.out (by simp; omega)
    have p0 := cell_blk hvb (i := 0) rfl; have p1 := cell_blk hvb (i := 1) rfl; have p2 := cell_blk hvb (i := 2) rfl; have p3 := cell_blk hvb (i := 3) rfl; have p4 := cell_blk hvb (i := 4) rfl; have p5 := cell_blk hvb (i := 5) rfl; have pf := free_blk hvb
    have hvl := lt_of_block hvb
    have hvbH := Lib.hid hvb
    have hstH := Lib.hid hst
    have hr1H := Lib.hid hr1
    have hrH := Lib.hid hr
    clear hvb hst hr1 hr
    go_wp2_with fail
    change bodyPost _ _ _ _ _ (set6 w1 w.heap.size (.int .i64 k0) (.int .i64 n0) (.string s0) (.slice ba bn bc) (.slice fa fn fc) (.slice la ln lc))
    refine bodyPost_ret (results_to rfl rfl (set6_heap hvbH.out)) rfl ?_
    rw [hrH.out]
    exact rv_bad (hA.out.tail hstH.out) hR hB hr1H.out
set_option maxRecDepth 100000 in
set_option maxHeartbeats 4000000 in
theorem val_3 {w : World} {R B o c a deep g : Nat} {b : Bs} (hV : RDoc g) (hfu : 34 ≤ g + (deep + 1)) (hdp : 1 ≤ deep ∧ deep < 1000) (h : RdS w R B o c b a 0) :
    Calls Tryd.prog 59 #[.pointer (some ⟨R, 0, none⟩), .int .u8 3, .int .i64 deep] w (RVP w R B o c b (decV b (fun items a => decDoc b g (deep + 1) items a) 3 a)) := by
  have hle := h.le
  have hB := h.blt
  have hR := lt_of_block h.cell
  have hcap := h.cap
  have hsm := h.small
  have hne := h.ne
  obtain ⟨W0, hW0⟩ : ∃ W0, W0 = w.alloc (.cells #[.int .i64 0, .int .i64 0, (.string ⟨#[]⟩), (.slice none 0 0), (.slice none 0 0), (.slice none 0 0)] 27) := ⟨_, rfl⟩
  have hA0 : Step [] id id w W0 := by rw [hW0]; exact Step.alloc _
  have hV0 := Lib.hid (show W0.heap[w.heap.size]? = some (.cells #[.int .i64 0, .int .i64 0, (.string ⟨#[]⟩), (.slice none 0 0), (.slice none 0 0), (.slice none 0 0)] 27 (0, 0)) by rw [hW0]; exact heap_alloc_new w _)
  have h0 := Lib.hid (h.step hA0)
  have hA := Lib.hid (show Step [R] id id w W0 by rw [hW0]; exact Step.alloc _)
  have hWH := Lib.hid hW0
  clear h hA0 hW0
  have hc := hV W0 R B o c b a (deep + 1) false hfu (by omega) (by omega) (fun _ => by omega) h0.out
  have hd : decV b (fun items a => decDoc b g (deep + 1) items a) 3 a = (docR b g (deep + 1) false a).bind fun f a => .ok (docV false f) a := by
    have : docR b g (deep + 1) false a = decDoc b g (deep + 1) false a := if_neg (fun e => by omega)
    rw [this]; rfl
  rw [hd]
  clear hd
  obtain ⟨RES, hRES⟩ : ∃ RES : Res Val, RES = (docR b g (deep + 1) false a).bind fun f a => .ok (docV false f) a := ⟨_, rfl⟩
  rw [← hRES] at hc ⊢
  have hw1 : IntKind.i64.wrap ((deep : Int) + 1) = (deep : Int) + 1 := IntWalk.i64_in _ (by omega)
  rw [show ((deep + 1 : Nat) : Int) = (deep : Int) + 1 by push_cast; rfl] at hc
  have hcall := Lib.hid hc
  clear hc hRES
  go_enter Tryd.func59, Tryd.ntmps59
  go_wp2_with fail
  rw [← hWH.out]
  refine hcall.out.mono ?_
  rintro e w1 hP
  cases hr : RES with
  | ok v a2 =>
    rw [hr] at hP
    obtain ⟨hst, cs, rfl, hx, hr1⟩ := hP
    obtain ⟨s0, ba, bn, bc, fa, fn, fc, la, ln, lc, hcs, -⟩ := hx.six
    obtain ⟨n0, hn0⟩ : ∃ k, k = v.num := ⟨_, rfl⟩
    obtain ⟨k0, hk0⟩ : ∃ k, k = v.kind := ⟨_, rfl⟩
    rw [← hk0, ← hn0] at hcs
    subst hcs
    have hvb := hst.at hV0.out (by simp; omega)
    have p0 := cell_blk hvb (i := 0) rfl; have p1 := cell_blk hvb (i := 1) rfl; have p2 := cell_blk hvb (i := 2) rfl; have p3 := cell_blk hvb (i := 3) rfl; have p4 := cell_blk hvb (i := 4) rfl; have p5 := cell_blk hvb (i := 5) rfl; have pf := free_blk hvb
    have hvl := lt_of_block hvb
    have hvbH := Lib.hid hvb
    have hstH := Lib.hid hst
    have hxH := Lib.hid hx
    have hr1H := Lib.hid hr1
    have hrH := Lib.hid hr
    clear hvb hst hx hr1 hr hn0 hk0
    go_wp2_with fail
    change bodyPost _ _ _ _ _ (set6 w1 w.heap.size (.int .i64 k0) (.int .i64 n0) (.string s0) (.slice ba bn bc) (.slice fa fn fc) (.slice la ln lc))
    refine bodyPost_ret (results_to rfl rfl (set6_heap hvbH.out)) rfl ?_
    rw [hrH.out]
    exact rv_ok (hA.out.tail hstH.out) hR hB hr1H.out (hxH.out.keep (fun k hk => by have := lt_of_block hV0.out; omega) (fun _ _ _ => rfl))
  | bad n =>
    rw [hr] at hP
    obtain ⟨hst, k0, n0, s0, ba, bn, bc, fa, fn, fc, la, ln, lc, rfl, a2, hr1⟩ := hP
    have hvb := hst.at hV0.out (by simp; omega)
    have p0 := cell_blk hvb (i := 0) rfl; have p1 := cell_blk hvb (i := 1) rfl; have p2 := cell_blk hvb (i := 2) rfl; have p3 := cell_blk hvb (i := 3) rfl; have p4 := cell_blk hvb (i := 4) rfl; have p5 := cell_blk hvb (i := 5) rfl; have pf := free_blk hvb
    have hvl := lt_of_block hvb
    have hvbH := Lib.hid hvb
    have hstH := Lib.hid hst
    have hr1H := Lib.hid hr1
    have hrH := Lib.hid hr
    clear hvb hst hr1 hr
    go_wp2_with fail
    change bodyPost _ _ _ _ _ (set6 w1 w.heap.size (.int .i64 k0) (.int .i64 n0) (.string s0) (.slice ba bn bc) (.slice fa fn fc) (.slice la ln lc))
    refine bodyPost_ret (results_to rfl rfl (set6_heap hvbH.out)) rfl ?_
    rw [hrH.out]
    exact rv_bad (hA.out.tail hstH.out) hR hB hr1H.out
set_option maxRecDepth 100000 in
set_option maxHeartbeats 4000000 in
theorem val_4 {w : World} {R B o c a deep g : Nat} {b : Bs} (hV : RDoc g) (hfu : 34 ≤ g + (deep + 1)) (hdp : 1 ≤ deep ∧ deep < 1000) (h : RdS w R B o c b a 0) :
    Calls Tryd.prog 59 #[.pointer (some ⟨R, 0, none⟩), .int .u8 4, .int .i64 deep] w (RVP w R B o c b (decV b (fun items a => decDoc b g (deep + 1) items a) 4 a)) := by
  have hle := h.le
  have hB := h.blt
  have hR := lt_of_block h.cell
  have hcap := h.cap
  have hsm := h.small
  have hne := h.ne
  obtain ⟨W0, hW0⟩ : ∃ W0, W0 = w.alloc (.cells #[.int .i64 0, .int .i64 0, (.string ⟨#[]⟩), (.slice none 0 0), (.slice none 0 0), (.slice none 0 0)] 27) := ⟨_, rfl⟩
  have hA0 : Step [] id id w W0 := by rw [hW0]; exact Step.alloc _
  have hV0 := Lib.hid (show W0.heap[w.heap.size]? = some (.cells #[.int .i64 0, .int .i64 0, (.string ⟨#[]⟩), (.slice none 0 0), (.slice none 0 0), (.slice none 0 0)] 27 (0, 0)) by rw [hW0]; exact heap_alloc_new w _)
  have h0 := Lib.hid (h.step hA0)
  have hA := Lib.hid (show Step [R] id id w W0 by rw [hW0]; exact Step.alloc _)
  have hWH := Lib.hid hW0
  clear h hA0 hW0
  have hc := hV W0 R B o c b a (deep + 1) true hfu (by omega) (by omega) (fun _ => by omega) h0.out
  have hd : decV b (fun items a => decDoc b g (deep + 1) items a) 4 a = (docR b g (deep + 1) true a).bind fun f a => .ok (docV true f) a := by
    have : docR b g (deep + 1) true a = decDoc b g (deep + 1) true a := if_neg (fun e => by omega)
    rw [this]; rfl
  rw [hd]
  clear hd
  obtain ⟨RES, hRES⟩ : ∃ RES : Res Val, RES = (docR b g (deep + 1) true a).bind fun f a => .ok (docV true f) a := ⟨_, rfl⟩
  rw [← hRES] at hc ⊢
  have hw1 : IntKind.i64.wrap ((deep : Int) + 1) = (deep : Int) + 1 := IntWalk.i64_in _ (by omega)
  rw [show ((deep + 1 : Nat) : Int) = (deep : Int) + 1 by push_cast; rfl] at hc
  have hcall := Lib.hid hc
  clear hc hRES
  go_enter Tryd.func59, Tryd.ntmps59
  go_wp2_with fail
  rw [← hWH.out]
  refine hcall.out.mono ?_
  rintro e w1 hP
  cases hr : RES with
  | ok v a2 =>
    rw [hr] at hP
    obtain ⟨hst, cs, rfl, hx, hr1⟩ := hP
    obtain ⟨s0, ba, bn, bc, fa, fn, fc, la, ln, lc, hcs, -⟩ := hx.six
    obtain ⟨n0, hn0⟩ : ∃ k, k = v.num := ⟨_, rfl⟩
    obtain ⟨k0, hk0⟩ : ∃ k, k = v.kind := ⟨_, rfl⟩
    rw [← hk0, ← hn0] at hcs
    subst hcs
    have hvb := hst.at hV0.out (by simp; omega)
    have p0 := cell_blk hvb (i := 0) rfl; have p1 := cell_blk hvb (i := 1) rfl; have p2 := cell_blk hvb (i := 2) rfl; have p3 := cell_blk hvb (i := 3) rfl; have p4 := cell_blk hvb (i := 4) rfl; have p5 := cell_blk hvb (i := 5) rfl; have pf := free_blk hvb
    have hvl := lt_of_block hvb
    have hvbH := Lib.hid hvb
    have hstH := Lib.hid hst
    have hxH := Lib.hid hx
    have hr1H := Lib.hid hr1
    have hrH := Lib.hid hr
    clear hvb hst hx hr1 hr hn0 hk0
    go_wp2_with fail
    change bodyPost _ _ _ _ _ (set6 w1 w.heap.size (.int .i64 k0) (.int .i64 n0) (.string s0) (.slice ba bn bc) (.slice fa fn fc) (.slice la ln lc))
    refine bodyPost_ret (results_to rfl rfl (set6_heap hvbH.out)) rfl ?_
    rw [hrH.out]
    exact rv_ok (hA.out.tail hstH.out) hR hB hr1H.out (hxH.out.keep (fun k hk => by have := lt_of_block hV0.out; omega) (fun _ _ _ => rfl))
  | bad n =>
    rw [hr] at hP
    obtain ⟨hst, k0, n0, s0, ba, bn, bc, fa, fn, fc, la, ln, lc, rfl, a2, hr1⟩ := hP
    have hvb := hst.at hV0.out (by simp; omega)
    have p0 := cell_blk hvb (i := 0) rfl; have p1 := cell_blk hvb (i := 1) rfl; have p2 := cell_blk hvb (i := 2) rfl; have p3 := cell_blk hvb (i := 3) rfl; have p4 := cell_blk hvb (i := 4) rfl; have p5 := cell_blk hvb (i := 5) rfl; have pf := free_blk hvb
    have hvl := lt_of_block hvb
    have hvbH := Lib.hid hvb
    have hstH := Lib.hid hst
    have hr1H := Lib.hid hr1
    have hrH := Lib.hid hr
    clear hvb hst hr1 hr
    go_wp2_with fail
    change bodyPost _ _ _ _ _ (set6 w1 w.heap.size (.int .i64 k0) (.int .i64 n0) (.string s0) (.slice ba bn bc) (.slice fa fn fc) (.slice la ln lc))
    refine bodyPost_ret (results_to rfl rfl (set6_heap hvbH.out)) rfl ?_
    rw [hrH.out]
    exact rv_bad (hA.out.tail hstH.out) hR hB hr1H.out
end Go.Proofs.YtbkmnhogfegmcaaDoor
