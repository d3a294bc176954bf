/- The reference's reader: values, whole; documents: their beginning. -/
import Derived.Test.YtbkmnhogfegmcaaDoorBsQ7
set_option linter.unusedVariables false
set_option linter.unusedSimpArgs false
namespace Go.Proofs.YtbkmnhogfegmcaaDoor
open Go.RowKit




/-- A value of whatever kind. -/
theorem ref_value {w : World} {R B o c a deep g : Nat} {b : Bs} {k : UInt8} (hV : RDoc g) (hfu : 34 ≤ g + (deep + 1)) (hdp : 1 ≤ deep ∧ deep < 1000) (hk : known k = true) (h : RdS w R B o c b a 0) :
    Calls Tryd.prog 59 #[.pointer (some ⟨R, 0, none⟩), .int .u8 (k.toNat : Int), .int .i64 deep] w (RVP w R B o c b (decV b (fun items a => decDoc b g (deep + 1) items a) k a)) := by
  rcases known_cases hk with rfl | rfl | rfl | rfl | rfl | rfl | rfl | rfl | rfl | rfl | rfl | rfl | rfl | rfl
  · exact val_255 _ _ h
  · exact val_10 _ _ h
  · exact val_16 _ _ h
  · exact val_18 _ _ h
  · exact val_2 _ _ h
  · exact val_3 hV hfu hdp h
  · exact val_4 hV hfu hdp h
  · exact val_5 _ _ h
  · exact val_7 _ _ h
  · exact val_8 _ _ h
  · exact val_9 _ _ h
  · exact val_127 _ _ h
  · exact val_1 _ _ h
  · exact val_19 _ _ h
theorem need_e {w : World} {R B o c a : Nat} {b : Bs} {e : Int} (h : RdS w R B o c b a e) (he : e ≠ 0) (n : Int) : Calls Tryd.prog 53 #[.pointer (some ⟨R, 0, none⟩), .int .i64 n] w fun x w' => x = .returned (.bool false) ∧ RdS w' R B o c b a e ∧ Step [R] id id w w' := by
  have hsm := h.small
  have hle := h.le
  refine (ref_need h.cell (by omega) (by omega)).mono ?_
  rintro x w' ⟨rfl, h1, h2⟩
  have e1 : (if e = 0 ∧ (b.length : Int) - (a : Int) < n then (2 : Int) else e) = e := if_neg (fun h => he h.1)
  rw [e1] at h1 ⊢
  exact ⟨by rw [decide_eq_false he], h.to h2 h1 hle, h2⟩
/-- Of the fields of a document whose length is sound. -/
def fieldsR (b : Bs) (g deep : Nat) (items : Bool) (a : Nat) : Res (List (Bs × Val)) :=
  (decFs b (fun items a => decDoc b g (deep + 1) items a) items (b.length + 1) [] (a + 4)).bind fun l a' => if ((a' : Int) - a) = signed 4 (numAt b a 4) then .ok l a' else .bad 4
theorem docR_deep {b : Bs} {fuel deep a : Nat} {items : Bool} (h : 32 < deep) : docR b fuel deep items a = .bad 7 := by
  have : decDoc b fuel deep items a = .bad 7 := by
    cases fuel with
    | zero => rfl
    | succ g => rw [decDoc, if_pos h]
  unfold docR
  rw [if_neg (by omega), this]
theorem docR_short {b : Bs} {g deep a : Nat} {items : Bool} (h : ¬ 32 < deep) (hs : b.length - a < 4) : docR b (g + 1) deep items a = .bad 2 := by
  unfold docR
  rw [if_neg (fun e => e.2.1 hs), decDoc, if_neg h, if_pos hs]
theorem docR_low {b : Bs} {g deep a : Nat} {items : Bool} (h : ¬ 32 < deep) (hs : ¬ b.length - a < 4) (hn : signed 4 (numAt b a 4) < 5 ∨ (deep = 1 ∧ signed 4 (numAt b a 4) ≠ b.length)) : docR b (g + 1) deep items a = .bad 4 := by
  unfold docR
  by_cases hl : signed 4 (numAt b a 4) < 5
  · rw [if_neg (fun e => e.2.2.1 hl), decDoc, if_neg h, if_neg hs]
    dsimp only
    rw [if_pos hl]
  · rcases hn with h1 | h1
    · exact absurd h1 hl
    · rw [if_pos ⟨h1.1, hs, hl, h1.2⟩]
theorem docR_go {b : Bs} {g deep a : Nat} {items : Bool} (h : ¬ 32 < deep) (hs : ¬ b.length - a < 4) (hn : ¬ signed 4 (numAt b a 4) < 5) (h1 : ¬ (deep = 1 ∧ signed 4 (numAt b a 4) ≠ b.length)) : docR b (g + 1) deep items a = fieldsR b g deep items a := by
  unfold docR
  rw [if_neg (fun e => h1 ⟨e.1, e.2.2.2⟩), decDoc, if_neg h, if_neg hs]
  dsimp only
  rw [if_neg hn]
  rfl


set_option maxRecDepth 100000 in
set_option maxHeartbeats 4000000 in
theorem doc_deep_false {w : World} {R B o c a deep : Nat} {b : Bs} (h : RdS w R B o c b a 0) (hd : 32 < deep) (hd2 : deep ≤ 1000) :
    Calls Tryd.prog 28 #[.pointer (some ⟨R, 0, none⟩), .bool false, .int .i64 deep] w (RVP w R B o c b (.bad 7)) := by
  have hdi : ¬ (deep : Int) ≤ 32 := by omega
  have hle := h.le
  have hB := h.blt
  have hR := lt_of_block h.cell
  have hcap := h.cap
  have hsm := h.small
  have hne := h.ne
  have cw1 := cell_blk h.cell (i := 1) rfl
  obtain ⟨W0, hW0⟩ : ∃ W0, W0 = (w.alloc (.cells #[.int .i64 0, .int .i64 0, (.string ⟨#[]⟩), (.slice none 0 0), (.slice none 0 0), (.slice none 0 0)] 27)).alloc (.cells #[.int .i64 6, .int .i64 0, (.string ⟨#[]⟩), (.slice none 0 0), (.slice none 0 0), (.slice none 0 0)] 27) := ⟨_, rfl⟩
  have hA0 : Step [] id id w W0 := by rw [hW0]; exact (Step.alloc _).tail (Step.alloc _)
  have hvH := Lib.hid (show W0.heap[w.heap.size]? = some (.cells #[.int .i64 0, .int .i64 0, (.string ⟨#[]⟩), (.slice none 0 0), (.slice none 0 0), (.slice none 0 0)] 27 (0, 0)) by rw [hW0]; exact alloc_old (heap_alloc_new w _))
  have hdH := Lib.hid (show W0.heap[w.heap.size + 1]? = some (.cells #[.int .i64 6, .int .i64 0, (.string ⟨#[]⟩), (.slice none 0 0), (.slice none 0 0), (.slice none 0 0)] 27 (0, 0)) by rw [hW0]; have := heap_alloc_new (w.alloc (.cells #[.int .i64 0, .int .i64 0, (.string ⟨#[]⟩), (.slice none 0 0), (.slice none 0 0), (.slice none 0 0)] 27)) (.cells #[.int .i64 6, .int .i64 0, (.string ⟨#[]⟩), (.slice none 0 0), (.slice none 0 0), (.slice none 0 0)] 27); rwa [show (w.alloc (.cells #[.int .i64 0, .int .i64 0, (.string ⟨#[]⟩), (.slice none 0 0), (.slice none 0 0), (.slice none 0 0)] 27)).heap.size = w.heap.size + 1 by simp] at this)
  have hrH := Lib.hid (h.step hA0)
  have hsH := Lib.hid (show Step [R] id id w W0 by rw [hW0]; exact (Step.alloc _).tail (Step.alloc _))
  have hWH := Lib.hid hW0
  have hRV : ¬ R = w.heap.size := by omega
  have hVR : ¬ w.heap.size = R := by omega
  have hRD : ¬ R = w.heap.size + 1 := by omega
  have hDR : ¬ w.heap.size + 1 = R := by omega
  clear h hA0 hW0
  go_enter Tryd.func28, Tryd.ntmps28
  go_wp2_with fail
  rw [← hWH.out]
  refine (bad_ok hrH.out 7).mono ?_
  rintro e w1 ⟨rfl, hr1, hs1⟩
  have hst := hs1
  have hrn := hr1
  have hvn := hst.at hvH.out (by simp; omega)
  have hdn := hst.at hdH.out (by simp; omega)
  have hsn := Lib.hid (hsH.out.tail hst)
  clear hvH hdH hrH hsH
  (try clear c0 c1 c2 fR)
  (try clear p0 p1 p2 p3 p4 p5 pf)
  (try clear d0 d1 d2 d3 d4 d5 df)
  (try clear hvl hdl)
  have c0 := cell_blk hrn.cell (i := 0) rfl; have c1 := cell_blk hrn.cell (i := 1) rfl; have c2 := cell_blk hrn.cell (i := 2) rfl; have fR := free_blk hrn.cell
  have p0 := cell_blk hvn (i := 0) rfl; have p1 := cell_blk hvn (i := 1) rfl; have p2 := cell_blk hvn (i := 2) rfl; have p3 := cell_blk hvn (i := 3) rfl; have p4 := cell_blk hvn (i := 4) rfl; have p5 := cell_blk hvn (i := 5) rfl; have pf := free_blk hvn
  have d0 := cell_blk hdn (i := 0) rfl; have d1 := cell_blk hdn (i := 1) rfl; have d2 := cell_blk hdn (i := 2) rfl; have d3 := cell_blk hdn (i := 3) rfl; have d4 := cell_blk hdn (i := 4) rfl; have d5 := cell_blk hdn (i := 5) rfl; have df := free_blk hdn
  have hvl := lt_of_block hvn
  have hdl := lt_of_block hdn
  have hvH := Lib.hid hvn
  have hdH := Lib.hid hdn
  have hrH := Lib.hid hrn
  have hsH := hsn
  clear hst hrn hvn hdn hsn
  clear hr1 hs1
  go_wp2_with fail
  refine (need_e hrH.out (by decide) 4).mono ?_
  rintro e w2 ⟨rfl, hr2, hs2⟩
  have hst := hs2
  have hrn := hr2
  have hvn := hst.at hvH.out (by simp; omega)
  have hdn := hst.at hdH.out (by simp; omega)
  have hsn := Lib.hid (hsH.out.tail hst)
  clear hvH hdH hrH hsH
  (try clear c0 c1 c2 fR)
  (try clear p0 p1 p2 p3 p4 p5 pf)
  (try clear d0 d1 d2 d3 d4 d5 df)
  (try clear hvl hdl)
  have c0 := cell_blk hrn.cell (i := 0) rfl; have c1 := cell_blk hrn.cell (i := 1) rfl; have c2 := cell_blk hrn.cell (i := 2) rfl; have fR := free_blk hrn.cell
  have p0 := cell_blk hvn (i := 0) rfl; have p1 := cell_blk hvn (i := 1) rfl; have p2 := cell_blk hvn (i := 2) rfl; have p3 := cell_blk hvn (i := 3) rfl; have p4 := cell_blk hvn (i := 4) rfl; have p5 := cell_blk hvn (i := 5) rfl; have pf := free_blk hvn
  have d0 := cell_blk hdn (i := 0) rfl; have d1 := cell_blk hdn (i := 1) rfl; have d2 := cell_blk hdn (i := 2) rfl; have d3 := cell_blk hdn (i := 3) rfl; have d4 := cell_blk hdn (i := 4) rfl; have d5 := cell_blk hdn (i := 5) rfl; have df := free_blk hdn
  have hvl := lt_of_block hvn
  have hdl := lt_of_block hdn
  have hvH := Lib.hid hvn
  have hdH := Lib.hid hdn
  have hrH := Lib.hid hrn
  have hsH := hsn
  clear hst hrn hvn hdn hsn
  clear hr2 hs2
  go_wp2_with fail
  change bodyPost _ _ _ _ _ (set6 w2 w.heap.size (.int .i64 6) (.int .i64 0) (.string ⟨#[]⟩) (.slice none 0 0) (.slice none 0 0) (.slice none 0 0))
  refine bodyPost_ret (results_to rfl rfl (set6_heap hvH.out)) rfl ?_
  (try rw [hres.out])
  exact rv_bad hsH.out hR hB hrH.out
set_option maxRecDepth 100000 in
set_option maxHeartbeats 4000000 in
theorem doc_short_false {w : World} {R B o c a deep : Nat} {b : Bs} (h : RdS w R B o c b a 0) (hd : ¬ 32 < deep) (hs : b.length - a < 4) :
    Calls Tryd.prog 28 #[.pointer (some ⟨R, 0, none⟩), .bool false, .int .i64 deep] w (RVP w R B o c b (.bad 2)) := by
  have hdi : (deep : Int) ≤ 32 := by omega
  have hle := h.le
  have hB := h.blt
  have hR := lt_of_block h.cell
  have hcap := h.cap
  have hsm := h.small
  have hne := h.ne
  have cw1 := cell_blk h.cell (i := 1) rfl
  obtain ⟨W0, hW0⟩ : ∃ W0, W0 = (w.alloc (.cells #[.int .i64 0, .int .i64 0, (.string ⟨#[]⟩), (.slice none 0 0), (.slice none 0 0), (.slice none 0 0)] 27)).alloc (.cells #[.int .i64 6, .int .i64 0, (.string ⟨#[]⟩), (.slice none 0 0), (.slice none 0 0), (.slice none 0 0)] 27) := ⟨_, rfl⟩
  have hA0 : Step [] id id w W0 := by rw [hW0]; exact (Step.alloc _).tail (Step.alloc _)
  have hvH := Lib.hid (show W0.heap[w.heap.size]? = some (.cells #[.int .i64 0, .int .i64 0, (.string ⟨#[]⟩), (.slice none 0 0), (.slice none 0 0), (.slice none 0 0)] 27 (0, 0)) by rw [hW0]; exact alloc_old (heap_alloc_new w _))
  have hdH := Lib.hid (show W0.heap[w.heap.size + 1]? = some (.cells #[.int .i64 6, .int .i64 0, (.string ⟨#[]⟩), (.slice none 0 0), (.slice none 0 0), (.slice none 0 0)] 27 (0, 0)) by rw [hW0]; have := heap_alloc_new (w.alloc (.cells #[.int .i64 0, .int .i64 0, (.string ⟨#[]⟩), (.slice none 0 0), (.slice none 0 0), (.slice none 0 0)] 27)) (.cells #[.int .i64 6, .int .i64 0, (.string ⟨#[]⟩), (.slice none 0 0), (.slice none 0 0), (.slice none 0 0)] 27); rwa [show (w.alloc (.cells #[.int .i64 0, .int .i64 0, (.string ⟨#[]⟩), (.slice none 0 0), (.slice none 0 0), (.slice none 0 0)] 27)).heap.size = w.heap.size + 1 by simp] at this)
  have hrH := Lib.hid (h.step hA0)
  have hsH := Lib.hid (show Step [R] id id w W0 by rw [hW0]; exact (Step.alloc _).tail (Step.alloc _))
  have hWH := Lib.hid hW0
  have hRV : ¬ R = w.heap.size := by omega
  have hVR : ¬ w.heap.size = R := by omega
  have hRD : ¬ R = w.heap.size + 1 := by omega
  have hDR : ¬ w.heap.size + 1 = R := by omega
  clear h hA0 hW0
  go_enter Tryd.func28, Tryd.ntmps28
  go_wp2_with fail
  rw [← hWH.out]
  refine (need_no hrH.out 4 (by omega)).mono ?_
  rintro e w1 ⟨rfl, hr1, hs1⟩
  have hst := hs1
  have hrn := hr1
  have hvn := hst.at hvH.out (by simp; omega)
  have hdn := hst.at hdH.out (by simp; omega)
  have hsn := Lib.hid (hsH.out.tail hst)
  clear hvH hdH hrH hsH
  (try clear c0 c1 c2 fR)
  (try clear p0 p1 p2 p3 p4 p5 pf)
  (try clear d0 d1 d2 d3 d4 d5 df)
  (try clear hvl hdl)
  have c0 := cell_blk hrn.cell (i := 0) rfl; have c1 := cell_blk hrn.cell (i := 1) rfl; have c2 := cell_blk hrn.cell (i := 2) rfl; have fR := free_blk hrn.cell
  have p0 := cell_blk hvn (i := 0) rfl; have p1 := cell_blk hvn (i := 1) rfl; have p2 := cell_blk hvn (i := 2) rfl; have p3 := cell_blk hvn (i := 3) rfl; have p4 := cell_blk hvn (i := 4) rfl; have p5 := cell_blk hvn (i := 5) rfl; have pf := free_blk hvn
  have d0 := cell_blk hdn (i := 0) rfl; have d1 := cell_blk hdn (i := 1) rfl; have d2 := cell_blk hdn (i := 2) rfl; have d3 := cell_blk hdn (i := 3) rfl; have d4 := cell_blk hdn (i := 4) rfl; have d5 := cell_blk hdn (i := 5) rfl; have df := free_blk hdn
  have hvl := lt_of_block hvn
  have hdl := lt_of_block hdn
  have hvH := Lib.hid hvn
  have hdH := Lib.hid hdn
  have hrH := Lib.hid hrn
  have hsH := hsn
  clear hst hrn hvn hdn hsn
  clear hr1 hs1
  go_wp2_with fail
  change bodyPost _ _ _ _ _ (set6 w1 w.heap.size (.int .i64 6) (.int .i64 0) (.string ⟨#[]⟩) (.slice none 0 0) (.slice none 0 0) (.slice none 0 0))
  refine bodyPost_ret (results_to rfl rfl (set6_heap hvH.out)) rfl ?_
  (try rw [hres.out])
  exact rv_bad hsH.out hR hB hrH.out
set_option maxRecDepth 100000 in
set_option maxHeartbeats 4000000 in
theorem doc_low_false {w : World} {R B o c a deep : Nat} {b : Bs} (h : RdS w R B o c b a 0) (hd : ¬ 32 < deep) (hs : ¬ b.length - a < 4) (hn : signed 4 (numAt b a 4) < 5 ∨ (deep = 1 ∧ signed 4 (numAt b a 4) ≠ b.length)) :
    Calls Tryd.prog 28 #[.pointer (some ⟨R, 0, none⟩), .bool false, .int .i64 deep] w (RVP w R B o c b (.bad 4)) := by
  have hdi : (deep : Int) ≤ 32 := by omega
  have hn4 : a + 4 ≤ b.length := by have := h.le; omega
  have hlt4 := numAt_lt4 hn4
  obtain ⟨N, hN⟩ : ∃ N, signed 4 (numAt b a 4) = N := ⟨_, rfl⟩
  rw [hN] at hn
  obtain ⟨M, hM⟩ : ∃ M, M = numAt b a 4 := ⟨_, rfl⟩
  rw [← hM] at hlt4
  have hcv : wrap64 (wrap32 (M : Int)) = N := by rw [hM, ← hN]; exact signed_conv _ (by rw [← hM]; exact hlt4)
  have hu : (M : Int) % 4294967296 = M := by omega
  have hMH := Lib.hid hM
  have hrg := signed4_range _ (by rw [hM] at hlt4; exact hlt4)
  rw [hN] at hrg
  have hw4 : IntKind.i64.wrap ((a : Int) + 4) = (a : Int) + 4 := IntWalk.i64_in _ (by have := h.le; have := h.small; omega)
  have hNH := Lib.hid hN
  clear hN hM
  have hnH := Lib.hid hn
  clear hn
  have hle := h.le
  have hB := h.blt
  have hR := lt_of_block h.cell
  have hcap := h.cap
  have hsm := h.small
  have hne := h.ne
  have cw1 := cell_blk h.cell (i := 1) rfl
  obtain ⟨W0, hW0⟩ : ∃ W0, W0 = (w.alloc (.cells #[.int .i64 0, .int .i64 0, (.string ⟨#[]⟩), (.slice none 0 0), (.slice none 0 0), (.slice none 0 0)] 27)).alloc (.cells #[.int .i64 6, .int .i64 0, (.string ⟨#[]⟩), (.slice none 0 0), (.slice none 0 0), (.slice none 0 0)] 27) := ⟨_, rfl⟩
  have hA0 : Step [] id id w W0 := by rw [hW0]; exact (Step.alloc _).tail (Step.alloc _)
  have hvH := Lib.hid (show W0.heap[w.heap.size]? = some (.cells #[.int .i64 0, .int .i64 0, (.string ⟨#[]⟩), (.slice none 0 0), (.slice none 0 0), (.slice none 0 0)] 27 (0, 0)) by rw [hW0]; exact alloc_old (heap_alloc_new w _))
  have hdH := Lib.hid (show W0.heap[w.heap.size + 1]? = some (.cells #[.int .i64 6, .int .i64 0, (.string ⟨#[]⟩), (.slice none 0 0), (.slice none 0 0), (.slice none 0 0)] 27 (0, 0)) by rw [hW0]; have := heap_alloc_new (w.alloc (.cells #[.int .i64 0, .int .i64 0, (.string ⟨#[]⟩), (.slice none 0 0), (.slice none 0 0), (.slice none 0 0)] 27)) (.cells #[.int .i64 6, .int .i64 0, (.string ⟨#[]⟩), (.slice none 0 0), (.slice none 0 0), (.slice none 0 0)] 27); rwa [show (w.alloc (.cells #[.int .i64 0, .int .i64 0, (.string ⟨#[]⟩), (.slice none 0 0), (.slice none 0 0), (.slice none 0 0)] 27)).heap.size = w.heap.size + 1 by simp] at this)
  have hrH := Lib.hid (h.step hA0)
  have hsH := Lib.hid (show Step [R] id id w W0 by rw [hW0]; exact (Step.alloc _).tail (Step.alloc _))
  have hWH := Lib.hid hW0
  have hRV : ¬ R = w.heap.size := by omega
  have hVR : ¬ w.heap.size = R := by omega
  have hRD : ¬ R = w.heap.size + 1 := by omega
  have hDR : ¬ w.heap.size + 1 = R := by omega
  clear h hA0 hW0
  go_enter Tryd.func28, Tryd.ntmps28
  go_wp2_with fail
  rw [← hWH.out]
  refine (need_ok hrH.out 4 (by omega)).mono ?_
  rintro e w1 ⟨rfl, hr1, hs1⟩
  have hst := hs1
  have hrn := hr1
  have hvn := hst.at hvH.out (by simp; omega)
  have hdn := hst.at hdH.out (by simp; omega)
  have hsn := Lib.hid (hsH.out.tail hst)
  clear hvH hdH hrH hsH
  (try clear c0 c1 c2 fR)
  (try clear p0 p1 p2 p3 p4 p5 pf)
  (try clear d0 d1 d2 d3 d4 d5 df)
  (try clear hvl hdl)
  have c0 := cell_blk hrn.cell (i := 0) rfl; have c1 := cell_blk hrn.cell (i := 1) rfl; have c2 := cell_blk hrn.cell (i := 2) rfl; have fR := free_blk hrn.cell
  have p0 := cell_blk hvn (i := 0) rfl; have p1 := cell_blk hvn (i := 1) rfl; have p2 := cell_blk hvn (i := 2) rfl; have p3 := cell_blk hvn (i := 3) rfl; have p4 := cell_blk hvn (i := 4) rfl; have p5 := cell_blk hvn (i := 5) rfl; have pf := free_blk hvn
  have d0 := cell_blk hdn (i := 0) rfl; have d1 := cell_blk hdn (i := 1) rfl; have d2 := cell_blk hdn (i := 2) rfl; have d3 := cell_blk hdn (i := 3) rfl; have d4 := cell_blk hdn (i := 4) rfl; have d5 := cell_blk hdn (i := 5) rfl; have df := free_blk hdn
  have hvl := lt_of_block hvn
  have hdl := lt_of_block hdn
  have hvH := Lib.hid hvn
  have hdH := Lib.hid hdn
  have hrH := Lib.hid hrn
  have hsH := hsn
  clear hst hrn hvn hdn hsn
  have hgt := Lib.hid (fun k => ref_get (w := w1.drewN k) (B := B) (o := o) (c := c) (a := a) (b := b) 4 (fun i hi => hrH.out.bytes i hi) hsm hn4 (by omega))
  have hmvH := Lib.hid (fun q => hrH.out.go 4 hn4 (x := (a : Int) + 4) (by push_cast; rfl) q)
  clear hr1 hs1
  go_wp2_with fail
  go_quiet ((go_at_call 54; rw [← hMH.out] at hgt; exact quietL (hgt.out _)))
  rw [hcv]
  by_cases hlow : N < 5
  · go_wp2_with fail
    refine (bad_ok (hmvH.out _).1 4).mono ?_
    rintro e w2 ⟨rfl, hr2, hs2⟩
    have hst := ((hmvH.out _).2.tail hs2)
    have hrn := hr2
    have hvn := hst.at hvH.out (by simp; omega)
    have hdn := hst.at hdH.out (by simp; omega)
    have hsn := Lib.hid (hsH.out.tail hst)
    clear hvH hdH hrH hsH
    (try clear c0 c1 c2 fR)
    (try clear p0 p1 p2 p3 p4 p5 pf)
    (try clear d0 d1 d2 d3 d4 d5 df)
    (try clear hvl hdl)
    have c0 := cell_blk hrn.cell (i := 0) rfl; have c1 := cell_blk hrn.cell (i := 1) rfl; have c2 := cell_blk hrn.cell (i := 2) rfl; have fR := free_blk hrn.cell
    have p0 := cell_blk hvn (i := 0) rfl; have p1 := cell_blk hvn (i := 1) rfl; have p2 := cell_blk hvn (i := 2) rfl; have p3 := cell_blk hvn (i := 3) rfl; have p4 := cell_blk hvn (i := 4) rfl; have p5 := cell_blk hvn (i := 5) rfl; have pf := free_blk hvn
    have d0 := cell_blk hdn (i := 0) rfl; have d1 := cell_blk hdn (i := 1) rfl; have d2 := cell_blk hdn (i := 2) rfl; have d3 := cell_blk hdn (i := 3) rfl; have d4 := cell_blk hdn (i := 4) rfl; have d5 := cell_blk hdn (i := 5) rfl; have df := free_blk hdn
    have hvl := lt_of_block hvn
    have hdl := lt_of_block hdn
    have hvH := Lib.hid hvn
    have hdH := Lib.hid hdn
    have hrH := Lib.hid hrn
    have hsH := hsn
    clear hst hrn hvn hdn hsn
    clear hr2 hs2
    go_wp2_with fail
    change bodyPost _ _ _ _ _ (set6 w2 w.heap.size (.int .i64 6) (.int .i64 0) (.string ⟨#[]⟩) (.slice none 0 0) (.slice none 0 0) (.slice none 0 0))
    refine bodyPost_ret (results_to rfl rfl (set6_heap hvH.out)) rfl ?_
    (try rw [hres.out])
    exact rv_bad hsH.out hR hB hrH.out
  · obtain ⟨hd1, hnl⟩ := hnH.out.resolve_left hlow
    subst hd1
    have hdl : (N != (b.length : Int)) = true := by rw [bne_iff_ne]; exact hnl
    clear hnl
    go_wp2_with fail
    refine (bad_ok (hmvH.out _).1 4).mono ?_
    rintro e w2 ⟨rfl, hr2, hs2⟩
    have hst := ((hmvH.out _).2.tail hs2)
    have hrn := hr2
    have hvn := hst.at hvH.out (by simp; omega)
    have hdn := hst.at hdH.out (by simp; omega)
    have hsn := Lib.hid (hsH.out.tail hst)
    clear hvH hdH hrH hsH
    (try clear c0 c1 c2 fR)
    (try clear p0 p1 p2 p3 p4 p5 pf)
    (try clear d0 d1 d2 d3 d4 d5 df)
    (try clear hvl hdl)
    have c0 := cell_blk hrn.cell (i := 0) rfl; have c1 := cell_blk hrn.cell (i := 1) rfl; have c2 := cell_blk hrn.cell (i := 2) rfl; have fR := free_blk hrn.cell
    have p0 := cell_blk hvn (i := 0) rfl; have p1 := cell_blk hvn (i := 1) rfl; have p2 := cell_blk hvn (i := 2) rfl; have p3 := cell_blk hvn (i := 3) rfl; have p4 := cell_blk hvn (i := 4) rfl; have p5 := cell_blk hvn (i := 5) rfl; have pf := free_blk hvn
    have d0 := cell_blk hdn (i := 0) rfl; have d1 := cell_blk hdn (i := 1) rfl; have d2 := cell_blk hdn (i := 2) rfl; have d3 := cell_blk hdn (i := 3) rfl; have d4 := cell_blk hdn (i := 4) rfl; have d5 := cell_blk hdn (i := 5) rfl; have df := free_blk hdn
    have hvl := lt_of_block hvn
    have hdl := lt_of_block hdn
    have hvH := Lib.hid hvn
    have hdH := Lib.hid hdn
    have hrH := Lib.hid hrn
    have hsH := hsn
    clear hst hrn hvn hdn hsn
    clear hr2 hs2
    go_wp2_with fail
    change bodyPost _ _ _ _ _ (set6 w2 w.heap.size (.int .i64 6) (.int .i64 0) (.string ⟨#[]⟩) (.slice none 0 0) (.slice none 0 0) (.slice none 0 0))
    refine bodyPost_ret (results_to rfl rfl (set6_heap hvH.out)) rfl ?_
    (try rw [hres.out])
    exact rv_bad hsH.out hR hB hrH.out
set_option maxRecDepth 100000 in
set_option maxHeartbeats 4000000 in
theorem doc_deep_true {w : World} {R B o c a deep : Nat} {b : Bs} (h : RdS w R B o c b a 0) (hd : 32 < deep) (hd2 : deep ≤ 1000) :
    Calls Tryd.prog 28 #[.pointer (some ⟨R, 0, none⟩), .bool true, .int .i64 deep] w (RVP w R B o c b (.bad 7)) := by
  have hdi : ¬ (deep : Int) ≤ 32 := by omega
  have hle := h.le
  have hB := h.blt
  have hR := lt_of_block h.cell
  have hcap := h.cap
  have hsm := h.small
  have hne := h.ne
  have cw1 := cell_blk h.cell (i := 1) rfl
  obtain ⟨W0, hW0⟩ : ∃ W0, W0 = (w.alloc (.cells #[.int .i64 0, .int .i64 0, (.string ⟨#[]⟩), (.slice none 0 0), (.slice none 0 0), (.slice none 0 0)] 27)).alloc (.cells #[.int .i64 7, .int .i64 0, (.string ⟨#[]⟩), (.slice none 0 0), (.slice none 0 0), (.slice none 0 0)] 27) := ⟨_, rfl⟩
  have hA0 : Step [] id id w W0 := by rw [hW0]; exact (Step.alloc _).tail (Step.alloc _)
  have hvH := Lib.hid (show W0.heap[w.heap.size]? = some (.cells #[.int .i64 0, .int .i64 0, (.string ⟨#[]⟩), (.slice none 0 0), (.slice none 0 0), (.slice none 0 0)] 27 (0, 0)) by rw [hW0]; exact alloc_old (heap_alloc_new w _))
  have hdH := Lib.hid (show W0.heap[w.heap.size + 1]? = some (.cells #[.int .i64 7, .int .i64 0, (.string ⟨#[]⟩), (.slice none 0 0), (.slice none 0 0), (.slice none 0 0)] 27 (0, 0)) by rw [hW0]; have := heap_alloc_new (w.alloc (.cells #[.int .i64 0, .int .i64 0, (.string ⟨#[]⟩), (.slice none 0 0), (.slice none 0 0), (.slice none 0 0)] 27)) (.cells #[.int .i64 7, .int .i64 0, (.string ⟨#[]⟩), (.slice none 0 0), (.slice none 0 0), (.slice none 0 0)] 27); rwa [show (w.alloc (.cells #[.int .i64 0, .int .i64 0, (.string ⟨#[]⟩), (.slice none 0 0), (.slice none 0 0), (.slice none 0 0)] 27)).heap.size = w.heap.size + 1 by simp] at this)
  have hrH := Lib.hid (h.step hA0)
  have hsH := Lib.hid (show Step [R] id id w W0 by rw [hW0]; exact (Step.alloc _).tail (Step.alloc _))
  have hWH := Lib.hid hW0
  have hRV : ¬ R = w.heap.size := by omega
  have hVR : ¬ w.heap.size = R := by omega
  have hRD : ¬ R = w.heap.size + 1 := by omega
  have hDR : ¬ w.heap.size + 1 = R := by omega
  clear h hA0 hW0
  go_enter Tryd.func28, Tryd.ntmps28
  go_wp2_with fail
  rw [← hWH.out]
  refine (bad_ok hrH.out 7).mono ?_
  rintro e w1 ⟨rfl, hr1, hs1⟩
  have hst := hs1
  have hrn := hr1
  have hvn := hst.at hvH.out (by simp; omega)
  have hdn := hst.at hdH.out (by simp; omega)
  have hsn := Lib.hid (hsH.out.tail hst)
  clear hvH hdH hrH hsH
  (try clear c0 c1 c2 fR)
  (try clear p0 p1 p2 p3 p4 p5 pf)
  (try clear d0 d1 d2 d3 d4 d5 df)
  (try clear hvl hdl)
  have c0 := cell_blk hrn.cell (i := 0) rfl; have c1 := cell_blk hrn.cell (i := 1) rfl; have c2 := cell_blk hrn.cell (i := 2) rfl; have fR := free_blk hrn.cell
  have p0 := cell_blk hvn (i := 0) rfl; have p1 := cell_blk hvn (i := 1) rfl; have p2 := cell_blk hvn (i := 2) rfl; have p3 := cell_blk hvn (i := 3) rfl; have p4 := cell_blk hvn (i := 4) rfl; have p5 := cell_blk hvn (i := 5) rfl; have pf := free_blk hvn
  have d0 := cell_blk hdn (i := 0) rfl; have d1 := cell_blk hdn (i := 1) rfl; have d2 := cell_blk hdn (i := 2) rfl; have d3 := cell_blk hdn (i := 3) rfl; have d4 := cell_blk hdn (i := 4) rfl; have d5 := cell_blk hdn (i := 5) rfl; have df := free_blk hdn
  have hvl := lt_of_block hvn
  have hdl := lt_of_block hdn
  have hvH := Lib.hid hvn
  have hdH := Lib.hid hdn
  have hrH := Lib.hid hrn
  have hsH := hsn
  clear hst hrn hvn hdn hsn
  clear hr1 hs1
  go_wp2_with fail
  refine (need_e hrH.out (by decide) 4).mono ?_
  rintro e w2 ⟨rfl, hr2, hs2⟩
  have hst := hs2
  have hrn := hr2
  have hvn := hst.at hvH.out (by simp; omega)
  have hdn := hst.at hdH.out (by simp; omega)
  have hsn := Lib.hid (hsH.out.tail hst)
  clear hvH hdH hrH hsH
  (try clear c0 c1 c2 fR)
  (try clear p0 p1 p2 p3 p4 p5 pf)
  (try clear d0 d1 d2 d3 d4 d5 df)
  (try clear hvl hdl)
  have c0 := cell_blk hrn.cell (i := 0) rfl; have c1 := cell_blk hrn.cell (i := 1) rfl; have c2 := cell_blk hrn.cell (i := 2) rfl; have fR := free_blk hrn.cell
  have p0 := cell_blk hvn (i := 0) rfl; have p1 := cell_blk hvn (i := 1) rfl; have p2 := cell_blk hvn (i := 2) rfl; have p3 := cell_blk hvn (i := 3) rfl; have p4 := cell_blk hvn (i := 4) rfl; have p5 := cell_blk hvn (i := 5) rfl; have pf := free_blk hvn
  have d0 := cell_blk hdn (i := 0) rfl; have d1 := cell_blk hdn (i := 1) rfl; have d2 := cell_blk hdn (i := 2) rfl; have d3 := cell_blk hdn (i := 3) rfl; have d4 := cell_blk hdn (i := 4) rfl; have d5 := cell_blk hdn (i := 5) rfl; have df := free_blk hdn
  have hvl := lt_of_block hvn
  have hdl := lt_of_block hdn
  have hvH := Lib.hid hvn
  have hdH := Lib.hid hdn
  have hrH := Lib.hid hrn
  have hsH := hsn
  clear hst hrn hvn hdn hsn
  clear hr2 hs2
  go_wp2_with fail
  change bodyPost _ _ _ _ _ (set6 w2 w.heap.size (.int .i64 7) (.int .i64 0) (.string ⟨#[]⟩) (.slice none 0 0) (.slice none 0 0) (.slice none 0 0))
  refine bodyPost_ret (results_to rfl rfl (set6_heap hvH.out)) rfl ?_
  (try rw [hres.out])
  exact rv_bad hsH.out hR hB hrH.out
set_option maxRecDepth 100000 in
set_option maxHeartbeats 4000000 in
theorem doc_short_true {w : World} {R B o c a deep : Nat} {b : Bs} (h : RdS w R B o c b a 0) (hd : ¬ 32 < deep) (hs : b.length - a < 4) :
    Calls Tryd.prog 28 #[.pointer (some ⟨R, 0, none⟩), .bool true, .int .i64 deep] w (RVP w R B o c b (.bad 2)) := by
  have hdi : (deep : Int) ≤ 32 := by omega
  have hle := h.le
  have hB := h.blt
  have hR := lt_of_block h.cell
  have hcap := h.cap
  have hsm := h.small
  have hne := h.ne
  have cw1 := cell_blk h.cell (i := 1) rfl
  obtain ⟨W0, hW0⟩ : ∃ W0, W0 = (w.alloc (.cells #[.int .i64 0, .int .i64 0, (.string ⟨#[]⟩), (.slice none 0 0), (.slice none 0 0), (.slice none 0 0)] 27)).alloc (.cells #[.int .i64 7, .int .i64 0, (.string ⟨#[]⟩), (.slice none 0 0), (.slice none 0 0), (.slice none 0 0)] 27) := ⟨_, rfl⟩
  have hA0 : Step [] id id w W0 := by rw [hW0]; exact (Step.alloc _).tail (Step.alloc _)
  have hvH := Lib.hid (show W0.heap[w.heap.size]? = some (.cells #[.int .i64 0, .int .i64 0, (.string ⟨#[]⟩), (.slice none 0 0), (.slice none 0 0), (.slice none 0 0)] 27 (0, 0)) by rw [hW0]; exact alloc_old (heap_alloc_new w _))
  have hdH := Lib.hid (show W0.heap[w.heap.size + 1]? = some (.cells #[.int .i64 7, .int .i64 0, (.string ⟨#[]⟩), (.slice none 0 0), (.slice none 0 0), (.slice none 0 0)] 27 (0, 0)) by rw [hW0]; have := heap_alloc_new (w.alloc (.cells #[.int .i64 0, .int .i64 0, (.string ⟨#[]⟩), (.slice none 0 0), (.slice none 0 0), (.slice none 0 0)] 27)) (.cells #[.int .i64 7, .int .i64 0, (.string ⟨#[]⟩), (.slice none 0 0), (.slice none 0 0), (.slice none 0 0)] 27); rwa [show (w.alloc (.cells #[.int .i64 0, .int .i64 0, (.string ⟨#[]⟩), (.slice none 0 0), (.slice none 0 0), (.slice none 0 0)] 27)).heap.size = w.heap.size + 1 by simp] at this)
  have hrH := Lib.hid (h.step hA0)
  have hsH := Lib.hid (show Step [R] id id w W0 by rw [hW0]; exact (Step.alloc _).tail (Step.alloc _))
  have hWH := Lib.hid hW0
  have hRV : ¬ R = w.heap.size := by omega
  have hVR : ¬ w.heap.size = R := by omega
  have hRD : ¬ R = w.heap.size + 1 := by omega
  have hDR : ¬ w.heap.size + 1 = R := by omega
  clear h hA0 hW0
  go_enter Tryd.func28, Tryd.ntmps28
  go_wp2_with fail
  rw [← hWH.out]
  refine (need_no hrH.out 4 (by omega)).mono ?_
  rintro e w1 ⟨rfl, hr1, hs1⟩
  have hst := hs1
  have hrn := hr1
  have hvn := hst.at hvH.out (by simp; omega)
  have hdn := hst.at hdH.out (by simp; omega)
  have hsn := Lib.hid (hsH.out.tail hst)
  clear hvH hdH hrH hsH
  (try clear c0 c1 c2 fR)
  (try clear p0 p1 p2 p3 p4 p5 pf)
  (try clear d0 d1 d2 d3 d4 d5 df)
  (try clear hvl hdl)
  have c0 := cell_blk hrn.cell (i := 0) rfl; have c1 := cell_blk hrn.cell (i := 1) rfl; have c2 := cell_blk hrn.cell (i := 2) rfl; have fR := free_blk hrn.cell
  have p0 := cell_blk hvn (i := 0) rfl; have p1 := cell_blk hvn (i := 1) rfl; have p2 := cell_blk hvn (i := 2) rfl; have p3 := cell_blk hvn (i := 3) rfl; have p4 := cell_blk hvn (i := 4) rfl; have p5 := cell_blk hvn (i := 5) rfl; have pf := free_blk hvn
  have d0 := cell_blk hdn (i := 0) rfl; have d1 := cell_blk hdn (i := 1) rfl; have d2 := cell_blk hdn (i := 2) rfl; have d3 := cell_blk hdn (i := 3) rfl; have d4 := cell_blk hdn (i := 4) rfl; have d5 := cell_blk hdn (i := 5) rfl; have df := free_blk hdn
  have hvl := lt_of_block hvn
  have hdl := lt_of_block hdn
  have hvH := Lib.hid hvn
  have hdH := Lib.hid hdn
  have hrH := Lib.hid hrn
  have hsH := hsn
  clear hst hrn hvn hdn hsn
  clear hr1 hs1
  go_wp2_with fail
  change bodyPost _ _ _ _ _ (set6 w1 w.heap.size (.int .i64 7) (.int .i64 0) (.string ⟨#[]⟩) (.slice none 0 0) (.slice none 0 0) (.slice none 0 0))
  refine bodyPost_ret (results_to rfl rfl (set6_heap hvH.out)) rfl ?_
  (try rw [hres.out])
  exact rv_bad hsH.out hR hB hrH.out
set_option maxRecDepth 100000 in
set_option maxHeartbeats 4000000 in
theorem doc_low_true {w : World} {R B o c a deep : Nat} {b : Bs} (h : RdS w R B o c b a 0) (hd : ¬ 32 < deep) (hs : ¬ b.length - a < 4) (hn : signed 4 (numAt b a 4) < 5 ∨ (deep = 1 ∧ signed 4 (numAt b a 4) ≠ b.length)) :
    Calls Tryd.prog 28 #[.pointer (some ⟨R, 0, none⟩), .bool true, .int .i64 deep] w (RVP w R B o c b (.bad 4)) := by
  have hdi : (deep : Int) ≤ 32 := by omega
  have hn4 : a + 4 ≤ b.length := by have := h.le; omega
  have hlt4 := numAt_lt4 hn4
  obtain ⟨N, hN⟩ : ∃ N, signed 4 (numAt b a 4) = N := ⟨_, rfl⟩
  rw [hN] at hn
  obtain ⟨M, hM⟩ : ∃ M, M = numAt b a 4 := ⟨_, rfl⟩
  rw [← hM] at hlt4
  have hcv : wrap64 (wrap32 (M : Int)) = N := by rw [hM, ← hN]; exact signed_conv _ (by rw [← hM]; exact hlt4)
  have hu : (M : Int) % 4294967296 = M := by omega
  have hMH := Lib.hid hM
  have hrg := signed4_range _ (by rw [hM] at hlt4; exact hlt4)
  rw [hN] at hrg
  have hw4 : IntKind.i64.wrap ((a : Int) + 4) = (a : Int) + 4 := IntWalk.i64_in _ (by have := h.le; have := h.small; omega)
  have hNH := Lib.hid hN
  clear hN hM
  have hnH := Lib.hid hn
  clear hn
  have hle := h.le
  have hB := h.blt
  have hR := lt_of_block h.cell
  have hcap := h.cap
  have hsm := h.small
  have hne := h.ne
  have cw1 := cell_blk h.cell (i := 1) rfl
  obtain ⟨W0, hW0⟩ : ∃ W0, W0 = (w.alloc (.cells #[.int .i64 0, .int .i64 0, (.string ⟨#[]⟩), (.slice none 0 0), (.slice none 0 0), (.slice none 0 0)] 27)).alloc (.cells #[.int .i64 7, .int .i64 0, (.string ⟨#[]⟩), (.slice none 0 0), (.slice none 0 0), (.slice none 0 0)] 27) := ⟨_, rfl⟩
  have hA0 : Step [] id id w W0 := by rw [hW0]; exact (Step.alloc _).tail (Step.alloc _)
  have hvH := Lib.hid (show W0.heap[w.heap.size]? = some (.cells #[.int .i64 0, .int .i64 0, (.string ⟨#[]⟩), (.slice none 0 0), (.slice none 0 0), (.slice none 0 0)] 27 (0, 0)) by rw [hW0]; exact alloc_old (heap_alloc_new w _))
  have hdH := Lib.hid (show W0.heap[w.heap.size + 1]? = some (.cells #[.int .i64 7, .int .i64 0, (.string ⟨#[]⟩), (.slice none 0 0), (.slice none 0 0), (.slice none 0 0)] 27 (0, 0)) by rw [hW0]; have := heap_alloc_new (w.alloc (.cells #[.int .i64 0, .int .i64 0, (.string ⟨#[]⟩), (.slice none 0 0), (.slice none 0 0), (.slice none 0 0)] 27)) (.cells #[.int .i64 7, .int .i64 0, (.string ⟨#[]⟩), (.slice none 0 0), (.slice none 0 0), (.slice none 0 0)] 27); rwa [show (w.alloc (.cells #[.int .i64 0, .int .i64 0, (.string ⟨#[]⟩), (.slice none 0 0), (.slice none 0 0), (.slice none 0 0)] 27)).heap.size = w.heap.size + 1 by simp] at this)
  have hrH := Lib.hid (h.step hA0)
  have hsH := Lib.hid (show Step [R] id id w W0 by rw [hW0]; exact (Step.alloc _).tail (Step.alloc _))
  have hWH := Lib.hid hW0
  have hRV : ¬ R = w.heap.size := by omega
  have hVR : ¬ w.heap.size = R := by omega
  have hRD : ¬ R = w.heap.size + 1 := by omega
  have hDR : ¬ w.heap.size + 1 = R := by omega
  clear h hA0 hW0
  go_enter Tryd.func28, Tryd.ntmps28
  go_wp2_with fail
  rw [← hWH.out]
  refine (need_ok hrH.out 4 (by omega)).mono ?_
  rintro e w1 ⟨rfl, hr1, hs1⟩
  have hst := hs1
  have hrn := hr1
  have hvn := hst.at hvH.out (by simp; omega)
  have hdn := hst.at hdH.out (by simp; omega)
  have hsn := Lib.hid (hsH.out.tail hst)
  clear hvH hdH hrH hsH
  (try clear c0 c1 c2 fR)
  (try clear p0 p1 p2 p3 p4 p5 pf)
  (try clear d0 d1 d2 d3 d4 d5 df)
  (try clear hvl hdl)
  have c0 := cell_blk hrn.cell (i := 0) rfl; have c1 := cell_blk hrn.cell (i := 1) rfl; have c2 := cell_blk hrn.cell (i := 2) rfl; have fR := free_blk hrn.cell
  have p0 := cell_blk hvn (i := 0) rfl; have p1 := cell_blk hvn (i := 1) rfl; have p2 := cell_blk hvn (i := 2) rfl; have p3 := cell_blk hvn (i := 3) rfl; have p4 := cell_blk hvn (i := 4) rfl; have p5 := cell_blk hvn (i := 5) rfl; have pf := free_blk hvn
  have d0 := cell_blk hdn (i := 0) rfl; have d1 := cell_blk hdn (i := 1) rfl; have d2 := cell_blk hdn (i := 2) rfl; have d3 := cell_blk hdn (i := 3) rfl; have d4 := cell_blk hdn (i := 4) rfl; have d5 := cell_blk hdn (i := 5) rfl; have df := free_blk hdn
  have hvl := lt_of_block hvn
  have hdl := lt_of_block hdn
  have hvH := Lib.hid hvn
  have hdH := Lib.hid hdn
  have hrH := Lib.hid hrn
  have hsH := hsn
  clear hst hrn hvn hdn hsn
  have hgt := Lib.hid (fun k => ref_get (w := w1.drewN k) (B := B) (o := o) (c := c) (a := a) (b := b) 4 (fun i hi => hrH.out.bytes i hi) hsm hn4 (by omega))
  have hmvH := Lib.hid (fun q => hrH.out.go 4 hn4 (x := (a : Int) + 4) (by push_cast; rfl) q)
  clear hr1 hs1
  go_wp2_with fail
  go_quiet ((go_at_call 54; rw [← hMH.out] at hgt; exact quietL (hgt.out _)))
  rw [hcv]
  by_cases hlow : N < 5
  · go_wp2_with fail
    refine (bad_ok (hmvH.out _).1 4).mono ?_
    rintro e w2 ⟨rfl, hr2, hs2⟩
    have hst := ((hmvH.out _).2.tail hs2)
    have hrn := hr2
    have hvn := hst.at hvH.out (by simp; omega)
    have hdn := hst.at hdH.out (by simp; omega)
    have hsn := Lib.hid (hsH.out.tail hst)
    clear hvH hdH hrH hsH
    (try clear c0 c1 c2 fR)
    (try clear p0 p1 p2 p3 p4 p5 pf)
    (try clear d0 d1 d2 d3 d4 d5 df)
    (try clear hvl hdl)
    have c0 := cell_blk hrn.cell (i := 0) rfl; have c1 := cell_blk hrn.cell (i := 1) rfl; have c2 := cell_blk hrn.cell (i := 2) rfl; have fR := free_blk hrn.cell
    have p0 := cell_blk hvn (i := 0) rfl; have p1 := cell_blk hvn (i := 1) rfl; have p2 := cell_blk hvn (i := 2) rfl; have p3 := cell_blk hvn (i := 3) rfl; have p4 := cell_blk hvn (i := 4) rfl; have p5 := cell_blk hvn (i := 5) rfl; have pf := free_blk hvn
    have d0 := cell_blk hdn (i := 0) rfl; have d1 := cell_blk hdn (i := 1) rfl; have d2 := cell_blk hdn (i := 2) rfl; have d3 := cell_blk hdn (i := 3) rfl; have d4 := cell_blk hdn (i := 4) rfl; have d5 := cell_blk hdn (i := 5) rfl; have df := free_blk hdn
    have hvl := lt_of_block hvn
    have hdl := lt_of_block hdn
    have hvH := Lib.hid hvn
    have hdH := Lib.hid hdn
    have hrH := Lib.hid hrn
    have hsH := hsn
    clear hst hrn hvn hdn hsn
    clear hr2 hs2
    go_wp2_with fail
    change bodyPost _ _ _ _ _ (set6 w2 w.heap.size (.int .i64 7) (.int .i64 0) (.string ⟨#[]⟩) (.slice none 0 0) (.slice none 0 0) (.slice none 0 0))
    refine bodyPost_ret (results_to rfl rfl (set6_heap hvH.out)) rfl ?_
    (try rw [hres.out])
    exact rv_bad hsH.out hR hB hrH.out
  · obtain ⟨hd1, hnl⟩ := hnH.out.resolve_left hlow
    subst hd1
    have hdl : (N != (b.length : Int)) = true := by rw [bne_iff_ne]; exact hnl
    clear hnl
    go_wp2_with fail
    refine (bad_ok (hmvH.out _).1 4).mono ?_
    rintro e w2 ⟨rfl, hr2, hs2⟩
    have hst := ((hmvH.out _).2.tail hs2)
    have hrn := hr2
    have hvn := hst.at hvH.out (by simp; omega)
    have hdn := hst.at hdH.out (by simp; omega)
    have hsn := Lib.hid (hsH.out.tail hst)
    clear hvH hdH hrH hsH
    (try clear c0 c1 c2 fR)
    (try clear p0 p1 p2 p3 p4 p5 pf)
    (try clear d0 d1 d2 d3 d4 d5 df)
    (try clear hvl hdl)
    have c0 := cell_blk hrn.cell (i := 0) rfl; have c1 := cell_blk hrn.cell (i := 1) rfl; have c2 := cell_blk hrn.cell (i := 2) rfl; have fR := free_blk hrn.cell
    have p0 := cell_blk hvn (i := 0) rfl; have p1 := cell_blk hvn (i := 1) rfl; have p2 := cell_blk hvn (i := 2) rfl; have p3 := cell_blk hvn (i := 3) rfl; have p4 := cell_blk hvn (i := 4) rfl; have p5 := cell_blk hvn (i := 5) rfl; have pf := free_blk hvn
    have d0 := cell_blk hdn (i := 0) rfl; have d1 := cell_blk hdn (i := 1) rfl; have d2 := cell_blk hdn (i := 2) rfl; have d3 := cell_blk hdn (i := 3) rfl; have d4 := cell_blk hdn (i := 4) rfl; have d5 := cell_blk hdn (i := 5) rfl; have df := free_blk hdn
    have hvl := lt_of_block hvn
    have hdl := lt_of_block hdn
    have hvH := Lib.hid hvn
    have hdH := Lib.hid hdn
    have hrH := Lib.hid hrn
    have hsH := hsn
    clear hst hrn hvn hdn hsn
    clear hr2 hs2
    go_wp2_with fail
    change bodyPost _ _ _ _ _ (set6 w2 w.heap.size (.int .i64 7) (.int .i64 0) (.string ⟨#[]⟩) (.slice none 0 0) (.slice none 0 0) (.slice none 0 0))
    refine bodyPost_ret (results_to rfl rfl (set6_heap hvH.out)) rfl ?_
    (try rw [hres.out])
    exact rv_bad hsH.out hR hB hrH.out

/-- Between two rounds: the fields that were read. -/
def DF (w : World) (R B o c : Nat) (b : Bs) (T : Res (List (Bs × Val))) (rec_ : Bool → Nat → Res (List (Bs × Val))) (k : Nat) (wr : World) : Prop :=
  ∃ (acc : List (Bs × Val)) (p fl : Nat) (va : Option Addr) (vc : Nat) (xs : List Value), k = b.length - p ∧ b.length + 1 ≤ fl + p ∧ acc.length ≤ p ∧ decFs b rec_ false fl acc p = T ∧ RdS wr R B o c b p 0 ∧
    wr.heap[w.heap.size]? = some (.cells #[.int .i64 0, .int .i64 0, (.string ⟨#[]⟩), (.slice none 0 0), (.slice none 0 0), (.slice none 0 0)] 27 (0, 0)) ∧ wr.heap[w.heap.size + 1]? = some (.cells #[.int .i64 6, .int .i64 0, (.string ⟨#[]⟩), (.slice none 0 0), .slice va acc.length vc, (.slice none 0 0)] 27 (0, 0)) ∧
    wr.ownsRow 0 44 7 (.slice va acc.length vc) acc.length xs ∧ FRow (fun _ k => w.heap.size + 1 < k ∧ (Value.slice va acc.length vc).ownBlock ≠ some k) wr acc xs ∧ (∀ k, (Value.slice va acc.length vc).ownBlock = some k → w.heap.size + 1 < k) ∧ Step [R] id id w wr
/-- .. or the items. -/
def DL (w : World) (R B o c : Nat) (b : Bs) (T : Res (List (Bs × Val))) (rec_ : Bool → Nat → Res (List (Bs × Val))) (k : Nat) (wr : World) : Prop :=
  ∃ (acc : List (Bs × Val)) (p fl : Nat) (va : Option Addr) (vc : Nat) (xs : List Value), k = b.length - p ∧ b.length + 1 ≤ fl + p ∧ acc.length ≤ p ∧ decFs b rec_ true fl acc p = T ∧ RdS wr R B o c b p 0 ∧
    wr.heap[w.heap.size]? = some (.cells #[.int .i64 0, .int .i64 0, (.string ⟨#[]⟩), (.slice none 0 0), (.slice none 0 0), (.slice none 0 0)] 27 (0, 0)) ∧ wr.heap[w.heap.size + 1]? = some (.cells #[.int .i64 7, .int .i64 0, (.string ⟨#[]⟩), (.slice none 0 0), (.slice none 0 0), .slice va acc.length vc] 27 (0, 0)) ∧
    wr.ownsRow 0 27 6 (.slice va acc.length vc) acc.length xs ∧ LRow (fun _ k => w.heap.size + 1 < k ∧ (Value.slice va acc.length vc).ownBlock ≠ some k) wr (acc.map (·.2)) xs ∧ (∀ k, (Value.slice va acc.length vc).ownBlock = some k → w.heap.size + 1 < k) ∧ Step [R] id id w wr ∧ acc.map (·.1) = (List.range acc.length).map itoa
/-- A name that came before. -/
def DupR (w4 : World) (R B o c : Nat) (b : Bs) (q : Nat) (acc : List (Bs × Val)) (s : Bs) (i : Value) (wr : World) : Prop :=
  ∃ j : Nat, i = .int .i64 j ∧ j ≤ acc.length ∧ Step [R] id id w4 wr ∧ ((RdS wr R B o c b q 0 ∧ ∀ t (h : t < acc.length), t < j → acc[t].1 ≠ s) ∨ (RdS wr R B o c b q 6 ∧ s ∈ acc.map (·.1)))
theorem FRow.below {P : Nat → Nat → Prop} {w : World} {f : List (Bs × Val)} {xs : List Value} (h : FRow P w f xs) : FRow (fun i k => P i k ∧ k < w.heap.size) w f xs :=
  ⟨h.1, fun i hi => by obtain ⟨h1, cs, h2, h3⟩ := h.2 i hi; exact ⟨h1, cs, h2, VIs.below _ _ h3⟩⟩
theorem LRow.below {P : Nat → Nat → Prop} {w : World} {l : List Val} {xs : List Value} (h : LRow P w l xs) : LRow (fun i k => P i k ∧ k < w.heap.size) w l xs :=
  ⟨h.1, fun i hi => VIs.below _ _ (h.2 i hi)⟩
theorem rv_more {w W W' : World} {R B o c : Nat} {b : Bs} {n : Int} {e : Ending} (h : RVP w R B o c b (.bad n) e W) (hs : Step [] id id W W') : RVP w R B o c b (.bad n) e W' := by
  obtain ⟨h1, k, m, s, ba, bn, bc, fa, fn, fc, la, ln, lc, h2, a', h3⟩ := h
  exact ⟨h1.tail (hs.mono (fun _ h => by cases h)), k, m, s, ba, bn, bc, fa, fn, fc, la, ln, lc, h2, a', h3.step hs⟩
theorem LRow.snoc {P : Nat → Prop} {w : World} {l : List Val} {xs : List Value} (hr : LRow (fun _ => P) w l xs) {y : Val} {cs : List Value} (hc : cs.length = 6) (hv : VIs P w y cs) : LRow (fun _ => P) w (l ++ [y]) (xs ++ cs) := by
  refine ⟨by simp [hr.1, hc]; omega, fun j hj => ?_⟩
  rw [List.length_append, List.length_singleton] at hj
  rcases Nat.lt_or_ge j l.length with h | h
  · rw [List.getElem_append_left h]
    have h3 := hr.2 j h
    rwa [piece_ext (ys := xs) fun t ht => ?_]
    rw [List.getElem?_append_left (by have := hr.1; omega)]
  · obtain rfl : j = l.length := by omega
    rw [List.getElem_append_right (Nat.le_refl _)]
    simp only [Nat.sub_self, List.getElem_cons_zero]
    have e : piece 6 (xs ++ cs) l.length = cs := piece_is hc (fun t ht => by
      rw [List.getElem?_append_right (by have := hr.1; omega), hr.1]
      congr 1
      omega)
    rw [e]
    exact hv
end Go.Proofs.YtbkmnhogfegmcaaDoor
