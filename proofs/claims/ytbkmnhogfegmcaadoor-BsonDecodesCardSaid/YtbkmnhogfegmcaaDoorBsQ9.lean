/- The reference's reader: documents within others. -/
import Derived.Test.YtbkmnhogfegmcaaDoorBsQ8
set_option linter.unusedVariables false
set_option linter.unusedSimpArgs false
namespace Go.Proofs.YtbkmnhogfegmcaaDoor
open Go.RowKit






set_option maxRecDepth 100000 in
set_option maxHeartbeats 8000000 in
theorem doc_f {w : World} {R B o c a deep g : Nat} {b : Bs} (hV : RDoc g) (hfu : 34 ≤ g + (deep + 1)) (h : RdS w R B o c b a 0) (hd : ¬ 32 < deep) (hs : ¬ b.length - a < 4) (hn : ¬ signed 4 (numAt b a 4) < 5) (h2 : 2 ≤ deep) :
    Calls Tryd.prog 28 #[.pointer (some ⟨R, 0, none⟩), .bool false, .int .i64 deep] w (RVP w R B o c b ((fieldsR b g deep false a).bind fun f a => .ok (docV false f) a)) := by
  have hdi : (deep : Int) ≤ 32 := by omega
  have hn4 : a + 4 ≤ b.length := by have := h.le; omega
  have hd1 : ((deep : Int) == 1) = false := by rw [beq_eq_false_iff_ne]; omega
  have hdp : 1 ≤ deep ∧ deep < 1000 := by omega
  have hlt4 := numAt_lt4 hn4
  obtain ⟨N, hN⟩ : ∃ N, signed 4 (numAt b a 4) = N := ⟨_, rfl⟩
  rw [hN] at hn
  obtain ⟨M, hM⟩ : ∃ M, M = numAt b a 4 := ⟨_, rfl⟩
  rw [← hM] at hlt4
  have hcv : wrap64 (wrap32 (M : Int)) = N := by rw [hM, ← hN]; exact signed_conv _ (by rw [← hM]; exact hlt4)
  have hu : (M : Int) % 4294967296 = M := by omega
  have hMH := Lib.hid hM
  have hrg := signed4_range _ (by rw [hM] at hlt4; exact hlt4)
  rw [hN] at hrg
  have hw4 : IntKind.i64.wrap ((a : Int) + 4) = (a : Int) + 4 := IntWalk.i64_in _ (by have := h.le; have := h.small; omega)
  have hNH := Lib.hid hN
  clear hN hM
  obtain ⟨rec_, hrec_⟩ : ∃ rec_ : Bool → Nat → Res (List (Bs × Val)), rec_ = (fun items a => decDoc b g (deep + 1) items a) := ⟨_, rfl⟩
  obtain ⟨T, hT⟩ : ∃ T, T = decFs b rec_ false (b.length + 1) [] (a + 4) := ⟨_, rfl⟩
  obtain ⟨RES, hRES⟩ : ∃ RES : Res Val, RES = (T.bind fun l a' => if ((a' : Int) - a) = N then .ok l a' else .bad 4).bind fun f a => .ok (docV false f) a := ⟨_, rfl⟩
  have hgoal : (fieldsR b g deep false a).bind (fun f a => .ok (docV false f) a) = RES := by rw [hRES, hT, hrec_]; unfold fieldsR; rw [hNH.out]
  rw [hgoal]
  have hrecH := Lib.hid hrec_
  have hTH := Lib.hid hT
  have hRESH := Lib.hid hRES
  have hVH := Lib.hid hV
  clear hrec_ hT hRES hgoal hV
  have hle := h.le
  have hB := h.blt
  have hR := lt_of_block h.cell
  have hcap := h.cap
  have hsm := h.small
  have hne := h.ne
  have cw1 := cell_blk h.cell (i := 1) rfl
  obtain ⟨W0, hW0⟩ : ∃ W0, W0 = (w.alloc (.cells #[.int .i64 0, .int .i64 0, (.string ⟨#[]⟩), (.slice none 0 0), (.slice none 0 0), (.slice none 0 0)] 27)).alloc (.cells #[.int .i64 6, .int .i64 0, (.string ⟨#[]⟩), (.slice none 0 0), (.slice none 0 0), (.slice none 0 0)] 27) := ⟨_, rfl⟩
  have hA0 : Step [] id id w W0 := by rw [hW0]; exact (Step.alloc _).tail (Step.alloc _)
  have hvH := Lib.hid (show W0.heap[w.heap.size]? = some (.cells #[.int .i64 0, .int .i64 0, (.string ⟨#[]⟩), (.slice none 0 0), (.slice none 0 0), (.slice none 0 0)] 27 (0, 0)) by rw [hW0]; exact alloc_old (heap_alloc_new w _))
  have hdH := Lib.hid (show W0.heap[w.heap.size + 1]? = some (.cells #[.int .i64 6, .int .i64 0, (.string ⟨#[]⟩), (.slice none 0 0), (.slice none 0 0), (.slice none 0 0)] 27 (0, 0)) by rw [hW0]; have := heap_alloc_new (w.alloc (.cells #[.int .i64 0, .int .i64 0, (.string ⟨#[]⟩), (.slice none 0 0), (.slice none 0 0), (.slice none 0 0)] 27)) (.cells #[.int .i64 6, .int .i64 0, (.string ⟨#[]⟩), (.slice none 0 0), (.slice none 0 0), (.slice none 0 0)] 27); rwa [show (w.alloc (.cells #[.int .i64 0, .int .i64 0, (.string ⟨#[]⟩), (.slice none 0 0), (.slice none 0 0), (.slice none 0 0)] 27)).heap.size = w.heap.size + 1 by simp] at this)
  have hrH := Lib.hid (h.step hA0)
  have hsH := Lib.hid (show Step [R] id id w W0 by rw [hW0]; exact (Step.alloc _).tail (Step.alloc _))
  have hWH := Lib.hid hW0
  have hRV : ¬ R = w.heap.size := by omega
  have hVR : ¬ w.heap.size = R := by omega
  have hRD : ¬ R = w.heap.size + 1 := by omega
  have hDR : ¬ w.heap.size + 1 = R := by omega
  clear h hA0 hW0
  go_enter Tryd.func28, Tryd.ntmps28
  go_wp2_with fail
  rw [← hWH.out]
  refine (need_ok hrH.out 4 (by omega)).mono ?_
  rintro e w1 ⟨rfl, hr1, hs1⟩
  have hst := hs1
  have hrn := hr1
  have hvn := hst.at hvH.out (by simp; omega)
  have hdn := hst.at hdH.out (by simp; omega)
  have hsn := Lib.hid (hsH.out.tail hst)
  clear hvH hdH hrH hsH
  (try clear c0 c1 c2 fR)
  (try clear p0 p1 p2 p3 p4 p5 pf)
  (try clear d0 d1 d2 d3 d4 d5 df)
  (try clear hvl hdl)
  have c0 := cell_blk hrn.cell (i := 0) rfl; have c1 := cell_blk hrn.cell (i := 1) rfl; have c2 := cell_blk hrn.cell (i := 2) rfl; have fR := free_blk hrn.cell
  have p0 := cell_blk hvn (i := 0) rfl; have p1 := cell_blk hvn (i := 1) rfl; have p2 := cell_blk hvn (i := 2) rfl; have p3 := cell_blk hvn (i := 3) rfl; have p4 := cell_blk hvn (i := 4) rfl; have p5 := cell_blk hvn (i := 5) rfl; have pf := free_blk hvn
  have d0 := cell_blk hdn (i := 0) rfl; have d1 := cell_blk hdn (i := 1) rfl; have d2 := cell_blk hdn (i := 2) rfl; have d3 := cell_blk hdn (i := 3) rfl; have d4 := cell_blk hdn (i := 4) rfl; have d5 := cell_blk hdn (i := 5) rfl; have df := free_blk hdn
  have hvl := lt_of_block hvn
  have hdl := lt_of_block hdn
  have hvH := Lib.hid hvn
  have hdH := Lib.hid hdn
  have hrH := Lib.hid hrn
  have hsH := hsn
  clear hst hrn hvn hdn hsn
  have hgt := Lib.hid (fun k => ref_get (w := w1.drewN k) (B := B) (o := o) (c := c) (a := a) (b := b) 4 (fun i hi => hrH.out.bytes i hi) hsm hn4 (by omega))
  have hmvH := Lib.hid (fun q => hrH.out.go 4 hn4 (x := (a : Int) + 4) (by push_cast; rfl) q)
  clear hr1 hs1
  go_wp2_with fail
  go_quiet ((go_at_call 54; rw [← hMH.out] at hgt; exact quietL (hgt.out _)))
  rw [hcv]
  go_wp2_with fail
  obtain ⟨W2, hW2⟩ : ∃ W2, W2 = (w1.drewN nq).setCell ⟨R, 1, none⟩ (.int .i64 ((a : Int) + 4)) := ⟨_, rfl⟩
  rw [← hW2]
  have hmv := hmvH.out nq
  rw [← hW2] at hmv
  clear hW2
  have hst := hmv.2
  have hrn := hmv.1
  have hvn := hst.at hvH.out (by simp; omega)
  have hdn := hst.at hdH.out (by simp; omega)
  have hsn := Lib.hid (hsH.out.tail hst)
  clear hvH hdH hrH hsH
  (try clear c0 c1 c2 fR)
  (try clear p0 p1 p2 p3 p4 p5 pf)
  (try clear d0 d1 d2 d3 d4 d5 df)
  (try clear hvl hdl)
  have c0 := cell_blk hrn.cell (i := 0) rfl; have c1 := cell_blk hrn.cell (i := 1) rfl; have c2 := cell_blk hrn.cell (i := 2) rfl; have fR := free_blk hrn.cell
  have p0 := cell_blk hvn (i := 0) rfl; have p1 := cell_blk hvn (i := 1) rfl; have p2 := cell_blk hvn (i := 2) rfl; have p3 := cell_blk hvn (i := 3) rfl; have p4 := cell_blk hvn (i := 4) rfl; have p5 := cell_blk hvn (i := 5) rfl; have pf := free_blk hvn
  have d0 := cell_blk hdn (i := 0) rfl; have d1 := cell_blk hdn (i := 1) rfl; have d2 := cell_blk hdn (i := 2) rfl; have d3 := cell_blk hdn (i := 3) rfl; have d4 := cell_blk hdn (i := 4) rfl; have d5 := cell_blk hdn (i := 5) rfl; have df := free_blk hdn
  have hvl := lt_of_block hvn
  have hdl := lt_of_block hdn
  have hvH := Lib.hid hvn
  have hdH := Lib.hid hdn
  have hrH := Lib.hid hrn
  have hsH := hsn
  clear hst hrn hvn hdn hsn
  clear hmv
  go_loopg [] (b.length - (a + 4)) (fun k wr => DF w R B o c b T rec_ k wr)
  case atStart =>
    exact ⟨[], a + 4, b.length + 1, none, 0, [], rfl, by omega, by simp, hTH.out.symm, hrH.out, hvH.out, hdH.out, World.ownsRow_nil _ _ _ _, ⟨rfl, fun i h => by simp at h⟩, (fun _ h => by cases h), hsH.out⟩
  case round =>
    obtain ⟨acc, p, fl, va, vc, xs, rfl, hfl, hap, hdec, hrd, hv, hdd, hown, hrow, hnew, hst⟩ := hrel
    clear hvH hdH hrH hsH c0 c1 c2 fR p0 p1 p2 p3 p4 p5 pf d0 d1 d2 d3 d4 d5 df hvl hdl
    have hple := hrd.le
    obtain ⟨na, hna⟩ : ∃ na, na = acc.length := ⟨_, rfl⟩
    rw [← hna] at hap hdd hown hrow hnew
    have c0 := cell_blk hrd.cell (i := 0) rfl; have c1 := cell_blk hrd.cell (i := 1) rfl; have c2 := cell_blk hrd.cell (i := 2) rfl; have fR := free_blk hrd.cell
    have p0 := cell_blk hv (i := 0) rfl; have p1 := cell_blk hv (i := 1) rfl; have p2 := cell_blk hv (i := 2) rfl; have p3 := cell_blk hv (i := 3) rfl; have p4 := cell_blk hv (i := 4) rfl; have p5 := cell_blk hv (i := 5) rfl; have pf := free_blk hv
    have d0 := cell_blk hdd (i := 0) rfl; have d1 := cell_blk hdd (i := 1) rfl; have d2 := cell_blk hdd (i := 2) rfl; have d3 := cell_blk hdd (i := 3) rfl; have d4 := cell_blk hdd (i := 4) rfl; have d5 := cell_blk hdd (i := 5) rfl; have df := free_blk hdd
    have hvl := lt_of_block hv
    have hdl := lt_of_block hdd
    have hdecH := Lib.hid hdec
    have hrH := Lib.hid hrd
    have hvH := Lib.hid hv
    have hdH := Lib.hid hdd
    have hownH := Lib.hid hown
    have hrowH := Lib.hid hrow
    have hnewH := Lib.hid hnew
    have hsH := Lib.hid hst
    have hnaH := Lib.hid hna

    clear hdec hrd hv hdd hown hrow hnew hst hna
    obtain ⟨fl, rfl⟩ : ∃ f, fl = f + 1 := ⟨fl - 1, by omega⟩
    go_wp2_with fail
    by_cases hend : p = b.length
    · have hres := Lib.hid (show RES = .bad 2 by
        rw [hRESH.out, ← hdecH.out, decFs, List.getElem?_eq_none (by omega)]; rfl)
      refine (need_no hrH.out 1 (by omega)).mono ?_
      rintro e w2 ⟨rfl, hr2, hs2⟩
      have hst := hs2
      have hrn := hr2
      have hvn := hst.at hvH.out (by simp; omega)
      have hdn := hst.at hdH.out (by simp; omega)
      have hownn := Lib.hid (ownsRow_step hownH.out hst (fun k hk => by have := hnewH.out k hk; simp; omega))
      have hrown := Lib.hid (hrowH.out.keep (w' := w2) (P2 := fun _ k => w.heap.size + 1 < k ∧ (Value.slice va na vc).ownBlock ≠ some k) (fun _ _ h => h) (fun i k hk hl => (hst.keep k hl (by have := hk.1; simp; omega)).2))
      have hsn := Lib.hid (hsH.out.tail hst)
      (try clear hrlt)
      clear hvH hdH hrH hsH hownH hrowH c0 c1 c2 fR p0 p1 p2 p3 p4 p5 pf d0 d1 d2 d3 d4 d5 df hvl hdl
      have hrlt := lt_of_block hrn.cell
      have c0 := cell_blk hrn.cell (i := 0) rfl; have c1 := cell_blk hrn.cell (i := 1) rfl; have c2 := cell_blk hrn.cell (i := 2) rfl; have fR := free_blk hrn.cell
      have p0 := cell_blk hvn (i := 0) rfl; have p1 := cell_blk hvn (i := 1) rfl; have p2 := cell_blk hvn (i := 2) rfl; have p3 := cell_blk hvn (i := 3) rfl; have p4 := cell_blk hvn (i := 4) rfl; have p5 := cell_blk hvn (i := 5) rfl; have pf := free_blk hvn
      have d0 := cell_blk hdn (i := 0) rfl; have d1 := cell_blk hdn (i := 1) rfl; have d2 := cell_blk hdn (i := 2) rfl; have d3 := cell_blk hdn (i := 3) rfl; have d4 := cell_blk hdn (i := 4) rfl; have d5 := cell_blk hdn (i := 5) rfl; have df := free_blk hdn
      have hvl := lt_of_block hvn
      have hdl := lt_of_block hdn
      have hvH := Lib.hid hvn
      have hdH := Lib.hid hdn
      have hrH := Lib.hid hrn
      have hsH := hsn
      have hownH := hownn
      have hrowH := hrown
      clear hst hrn hvn hdn hsn hownn hrown
      clear hr2 hs2
      go_wp2_with fail
      change bodyPost _ _ _ _ _ (set6 w2 w.heap.size (.int .i64 6) (.int .i64 0) (.string ⟨#[]⟩) (.slice none 0 0) (.slice va _ vc) (.slice none 0 0))
      refine bodyPost_ret (results_to rfl rfl (set6_heap hvH.out)) rfl ?_
      (try rw [hres.out])
      exact rv_bad hsH.out hR hB hrH.out
    have hpl : p < b.length := by omega
    have hp1 : p + 1 ≤ b.length := hpl
    refine (need_ok hrH.out 1 (by omega)).mono ?_
    rintro e w2 ⟨rfl, hr2, hs2⟩
    have hst := hs2
    have hrn := hr2
    have hvn := hst.at hvH.out (by simp; omega)
    have hdn := hst.at hdH.out (by simp; omega)
    have hownn := Lib.hid (ownsRow_step hownH.out hst (fun k hk => by have := hnewH.out k hk; simp; omega))
    have hrown := Lib.hid (hrowH.out.keep (w' := w2) (P2 := fun _ k => w.heap.size + 1 < k ∧ (Value.slice va na vc).ownBlock ≠ some k) (fun _ _ h => h) (fun i k hk hl => (hst.keep k hl (by have := hk.1; simp; omega)).2))
    have hsn := Lib.hid (hsH.out.tail hst)
    (try clear hrlt)
    clear hvH hdH hrH hsH hownH hrowH c0 c1 c2 fR p0 p1 p2 p3 p4 p5 pf d0 d1 d2 d3 d4 d5 df hvl hdl
    have hrlt := lt_of_block hrn.cell
    have c0 := cell_blk hrn.cell (i := 0) rfl; have c1 := cell_blk hrn.cell (i := 1) rfl; have c2 := cell_blk hrn.cell (i := 2) rfl; have fR := free_blk hrn.cell
    have p0 := cell_blk hvn (i := 0) rfl; have p1 := cell_blk hvn (i := 1) rfl; have p2 := cell_blk hvn (i := 2) rfl; have p3 := cell_blk hvn (i := 3) rfl; have p4 := cell_blk hvn (i := 4) rfl; have p5 := cell_blk hvn (i := 5) rfl; have pf := free_blk hvn
    have d0 := cell_blk hdn (i := 0) rfl; have d1 := cell_blk hdn (i := 1) rfl; have d2 := cell_blk hdn (i := 2) rfl; have d3 := cell_blk hdn (i := 3) rfl; have d4 := cell_blk hdn (i := 4) rfl; have d5 := cell_blk hdn (i := 5) rfl; have df := free_blk hdn
    have hvl := lt_of_block hvn
    have hdl := lt_of_block hdn
    have hvH := Lib.hid hvn
    have hdH := Lib.hid hdn
    have hrH := Lib.hid hrn
    have hsH := hsn
    have hownH := hownn
    have hrowH := hrown
    clear hst hrn hvn hdn hsn hownn hrown
    clear hr2 hs2
    obtain ⟨k0, hk0⟩ : ∃ k0, k0 = b[p]'hpl := ⟨_, rfl⟩
    have hk0s : b[p]? = some k0 := by rw [List.getElem?_eq_getElem hpl, hk0]
    obtain ⟨y, hy⟩ : ∃ y : Nat, y = k0.toNat := ⟨_, rfl⟩
    have hy256 := k0.toNat_lt
    rw [← hy] at hy256
    have hcell : w2.cell? ⟨B, o + p, none⟩ = some (.int .u8 (y : Int)) := by rw [hy, hk0]; exact hrH.out.bytes p hpl
    have hpli : (p : Int) < (b.length : Int) := by omega
    have hw1 : IntKind.i64.wrap ((p : Int) + 1) = (p : Int) + 1 := IntWalk.i64_in _ (by omega)
    have hyH := Lib.hid hy
    have hk0H := Lib.hid hk0s
    have hmv2 := Lib.hid (fun q => hrH.out.go 1 hp1 (x := (p : Int) + 1) (by push_cast; rfl) q)
    clear hy hk0 hk0s
    go_wp2_with fail
    go_quiet (fail)
    by_cases hz : k0 = 0
    · have hok : T = .ok acc (p + 1) := by rw [← hdecH.out, decFs, hk0H.out, hz]; simp
      have hy0 : y = 0 := by rw [hyH.out, hz]; rfl
      subst hy0
      have hokH := Lib.hid hok
      have hw3 : IntKind.i64.wrap ((p : Int) + 1 - (a : Int)) = (p : Int) + 1 - (a : Int) := IntWalk.i64_in _ (by omega)
      clear hok hz
      by_cases hN : ((p + 1 : Nat) : Int) - (a : Int) = N
      · have hres := Lib.hid (show RES = .ok (docV false acc) (p + 1) by rw [hRESH.out, hokH.out]; simp only [Res.bind]; rw [if_pos hN])
        have hNd : ((p : Int) + 1 - (a : Int) != N) = false := by rw [bne_eq_false_iff_eq]; push_cast at hN; exact hN
        clear hN
        go_wp2_with fail
        have hmv := hmv2.out nq
        obtain ⟨W3, hW3⟩ : ∃ W3, W3 = (w2.drewN nq).setCell ⟨R, 1, none⟩ (.int .i64 ((p : Int) + 1)) := ⟨_, rfl⟩
        rw [← hW3] at hmv
        change bodyPost _ _ _ _ _ (set6 ((w2.drewN nq).setCell ⟨R, 1, none⟩ (.int .i64 ((p : Int) + 1))) w.heap.size (.int .i64 6) (.int .i64 0) (.string ⟨#[]⟩) (.slice none 0 0) (.slice va na vc) (.slice none 0 0))
        rw [← hW3]
        have hst := hmv.2
        have hrn := hmv.1
        have hvn := hst.at hvH.out (by simp; omega)
        have hdn := hst.at hdH.out (by simp; omega)
        have hownn := Lib.hid (ownsRow_step hownH.out hst (fun k hk => by have := hnewH.out k hk; simp; omega))
        have hrown := Lib.hid (hrowH.out.keep (w' := W3) (P2 := fun _ k => w.heap.size + 1 < k ∧ (Value.slice va na vc).ownBlock ≠ some k) (fun _ _ h => h) (fun i k hk hl => (hst.keep k hl (by have := hk.1; simp; omega)).2))
        have hsn := Lib.hid (hsH.out.tail hst)
        (try clear hrlt)
        clear hvH hdH hrH hsH hownH hrowH c0 c1 c2 fR p0 p1 p2 p3 p4 p5 pf d0 d1 d2 d3 d4 d5 df hvl hdl
        have hrlt := lt_of_block hrn.cell
        have c0 := cell_blk hrn.cell (i := 0) rfl; have c1 := cell_blk hrn.cell (i := 1) rfl; have c2 := cell_blk hrn.cell (i := 2) rfl; have fR := free_blk hrn.cell
        have p0 := cell_blk hvn (i := 0) rfl; have p1 := cell_blk hvn (i := 1) rfl; have p2 := cell_blk hvn (i := 2) rfl; have p3 := cell_blk hvn (i := 3) rfl; have p4 := cell_blk hvn (i := 4) rfl; have p5 := cell_blk hvn (i := 5) rfl; have pf := free_blk hvn
        have d0 := cell_blk hdn (i := 0) rfl; have d1 := cell_blk hdn (i := 1) rfl; have d2 := cell_blk hdn (i := 2) rfl; have d3 := cell_blk hdn (i := 3) rfl; have d4 := cell_blk hdn (i := 4) rfl; have d5 := cell_blk hdn (i := 5) rfl; have df := free_blk hdn
        have hvl := lt_of_block hvn
        have hdl := lt_of_block hdn
        have hvH := Lib.hid hvn
        have hdH := Lib.hid hdn
        have hrH := Lib.hid hrn
        have hsH := hsn
        have hownH := hownn
        have hrowH := hrown
        clear hst hrn hvn hdn hsn hownn hrown
        refine bodyPost_ret (results_to rfl rfl (set6_heap hvH.out)) rfl ?_
        rw [hres.out]
        have hna := hnaH.out
        subst hna
        obtain ⟨f1, f2, f3⟩ := hrowH.out.is (Q := fun k => w.heap.size < k) hownH.out (fun _ k hk => by have := hk.1; omega) (fun k hk => by have := hnewH.out k hk; omega)
        refine rv_ok hsH.out hR hB hrH.out ?_
        exact VIs.mk ⟨(.slice none 0 0), va, vc, none, 0, rfl, .inl ⟨none, 0, rfl, rfl, fun _ => rfl⟩, ⟨f2, by simp [docV, Val.doc, Val.l], f3, fun _ => rfl⟩, ⟨by simp [docV, Val.doc, Val.kind], by simp [docV, Val.doc, Val.kind], by simp [docV, Val.doc, Val.num], by simp [docV, Val.doc, Val.num]⟩, ⟨by simp [docV, Val.doc, Val.s], by simp [docV, Val.doc, Val.b], by simp only [docV, Val.doc, Val.f]; omega, by simp [docV, Val.doc, Val.l]⟩, f1, by simp [docV, Val.doc, Val.l, LIs]⟩
      · have hres := Lib.hid (show RES = .bad 4 by rw [hRESH.out, hokH.out]; simp only [Res.bind]; rw [if_neg hN])
        have hNd : ((p : Int) + 1 - (a : Int) != N) = true := by rw [bne_iff_ne]; push_cast at hN; exact hN
        clear hN
        go_wp2_with fail
        refine (bad_ok (hmv2.out _).1 4).mono ?_
        rintro e w4 ⟨rfl, hr4, hs4⟩
        have hst := ((hmv2.out _).2.tail hs4)
        have hrn := hr4
        have hvn := hst.at hvH.out (by simp; omega)
        have hdn := hst.at hdH.out (by simp; omega)
        have hownn := Lib.hid (ownsRow_step hownH.out hst (fun k hk => by have := hnewH.out k hk; simp; omega))
        have hrown := Lib.hid (hrowH.out.keep (w' := w4) (P2 := fun _ k => w.heap.size + 1 < k ∧ (Value.slice va na vc).ownBlock ≠ some k) (fun _ _ h => h) (fun i k hk hl => (hst.keep k hl (by have := hk.1; simp; omega)).2))
        have hsn := Lib.hid (hsH.out.tail hst)
        (try clear hrlt)
        clear hvH hdH hrH hsH hownH hrowH c0 c1 c2 fR p0 p1 p2 p3 p4 p5 pf d0 d1 d2 d3 d4 d5 df hvl hdl
        have hrlt := lt_of_block hrn.cell
        have c0 := cell_blk hrn.cell (i := 0) rfl; have c1 := cell_blk hrn.cell (i := 1) rfl; have c2 := cell_blk hrn.cell (i := 2) rfl; have fR := free_blk hrn.cell
        have p0 := cell_blk hvn (i := 0) rfl; have p1 := cell_blk hvn (i := 1) rfl; have p2 := cell_blk hvn (i := 2) rfl; have p3 := cell_blk hvn (i := 3) rfl; have p4 := cell_blk hvn (i := 4) rfl; have p5 := cell_blk hvn (i := 5) rfl; have pf := free_blk hvn
        have d0 := cell_blk hdn (i := 0) rfl; have d1 := cell_blk hdn (i := 1) rfl; have d2 := cell_blk hdn (i := 2) rfl; have d3 := cell_blk hdn (i := 3) rfl; have d4 := cell_blk hdn (i := 4) rfl; have d5 := cell_blk hdn (i := 5) rfl; have df := free_blk hdn
        have hvl := lt_of_block hvn
        have hdl := lt_of_block hdn
        have hvH := Lib.hid hvn
        have hdH := Lib.hid hdn
        have hrH := Lib.hid hrn
        have hsH := hsn
        have hownH := hownn
        have hrowH := hrown
        clear hst hrn hvn hdn hsn hownn hrown
        clear hr4 hs4
        go_wp2_with fail
        change bodyPost _ _ _ _ _ (set6 w4 w.heap.size (.int .i64 6) (.int .i64 0) (.string ⟨#[]⟩) (.slice none 0 0) (.slice va _ vc) (.slice none 0 0))
        refine bodyPost_ret (results_to rfl rfl (set6_heap hvH.out)) rfl ?_
        (try rw [hres.out])
        exact rv_bad hsH.out hR hB hrH.out
    have hy0 : ((y : Int) == 0) = false := by
      rw [beq_eq_false_iff_ne]; intro e; exact hz (UInt8.toNat_inj.1 (by rw [← hyH.out]; simpa using e))
    have hstep := decFs_step (rec_ := rec_) (items := false) (fl := fl) (acc := acc) hk0H.out hz
    rw [hdecH.out] at hstep
    have hstepH := Lib.hid hstep
    clear hstep
    go_wp2_with fail
    have hmv := hmv2.out nq
    obtain ⟨W3, hW3⟩ : ∃ W3, W3 = (w2.drewN nq).setCell ⟨R, 1, none⟩ (.int .i64 ((p : Int) + 1)) := ⟨_, rfl⟩
    rw [← hW3] at hmv ⊢
    clear hW3
    have hst := hmv.2
    have hrn := hmv.1
    have hvn := hst.at hvH.out (by simp; omega)
    have hdn := hst.at hdH.out (by simp; omega)
    have hownn := Lib.hid (ownsRow_step hownH.out hst (fun k hk => by have := hnewH.out k hk; simp; omega))
    have hrown := Lib.hid (hrowH.out.keep (w' := W3) (P2 := fun _ k => w.heap.size + 1 < k ∧ (Value.slice va na vc).ownBlock ≠ some k) (fun _ _ h => h) (fun i k hk hl => (hst.keep k hl (by have := hk.1; simp; omega)).2))
    have hsn := Lib.hid (hsH.out.tail hst)
    (try clear hrlt)
    clear hvH hdH hrH hsH hownH hrowH c0 c1 c2 fR p0 p1 p2 p3 p4 p5 pf d0 d1 d2 d3 d4 d5 df hvl hdl
    have hrlt := lt_of_block hrn.cell
    have c0 := cell_blk hrn.cell (i := 0) rfl; have c1 := cell_blk hrn.cell (i := 1) rfl; have c2 := cell_blk hrn.cell (i := 2) rfl; have fR := free_blk hrn.cell
    have p0 := cell_blk hvn (i := 0) rfl; have p1 := cell_blk hvn (i := 1) rfl; have p2 := cell_blk hvn (i := 2) rfl; have p3 := cell_blk hvn (i := 3) rfl; have p4 := cell_blk hvn (i := 4) rfl; have p5 := cell_blk hvn (i := 5) rfl; have pf := free_blk hvn
    have d0 := cell_blk hdn (i := 0) rfl; have d1 := cell_blk hdn (i := 1) rfl; have d2 := cell_blk hdn (i := 2) rfl; have d3 := cell_blk hdn (i := 3) rfl; have d4 := cell_blk hdn (i := 4) rfl; have d5 := cell_blk hdn (i := 5) rfl; have df := free_blk hdn
    have hvl := lt_of_block hvn
    have hdl := lt_of_block hdn
    have hvH := Lib.hid hvn
    have hdH := Lib.hid hdn
    have hrH := Lib.hid hrn
    have hsH := hsn
    have hownH := hownn
    have hrowH := hrown
    clear hst hrn hvn hdn hsn hownn hrown
    clear hmv hcell
    have hkc := ref_known k0 W3 hz
    rw [← hyH.out] at hkc
    refine hkc.mono ?_
    clear hkc
    rintro e w' ⟨rfl, rfl⟩
    have hzH := Lib.hid hz
    clear hz
    cases hkn : known k0
    · have hres := Lib.hid (show RES = .bad 9 by rw [hRESH.out, hstepH.out, if_pos hkn]; rfl)
      clear hkn
      go_wp2_with fail
      refine (bad_ok hrH.out 9).mono ?_
      rintro e w4 ⟨rfl, hr4, hs4⟩
      have hst := hs4
      have hrn := hr4
      have hvn := hst.at hvH.out (by simp; omega)
      have hdn := hst.at hdH.out (by simp; omega)
      have hownn := Lib.hid (ownsRow_step hownH.out hst (fun k hk => by have := hnewH.out k hk; simp; omega))
      have hrown := Lib.hid (hrowH.out.keep (w' := w4) (P2 := fun _ k => w.heap.size + 1 < k ∧ (Value.slice va na vc).ownBlock ≠ some k) (fun _ _ h => h) (fun i k hk hl => (hst.keep k hl (by have := hk.1; simp; omega)).2))
      have hsn := Lib.hid (hsH.out.tail hst)
      (try clear hrlt)
      clear hvH hdH hrH hsH hownH hrowH c0 c1 c2 fR p0 p1 p2 p3 p4 p5 pf d0 d1 d2 d3 d4 d5 df hvl hdl
      have hrlt := lt_of_block hrn.cell
      have c0 := cell_blk hrn.cell (i := 0) rfl; have c1 := cell_blk hrn.cell (i := 1) rfl; have c2 := cell_blk hrn.cell (i := 2) rfl; have fR := free_blk hrn.cell
      have p0 := cell_blk hvn (i := 0) rfl; have p1 := cell_blk hvn (i := 1) rfl; have p2 := cell_blk hvn (i := 2) rfl; have p3 := cell_blk hvn (i := 3) rfl; have p4 := cell_blk hvn (i := 4) rfl; have p5 := cell_blk hvn (i := 5) rfl; have pf := free_blk hvn
      have d0 := cell_blk hdn (i := 0) rfl; have d1 := cell_blk hdn (i := 1) rfl; have d2 := cell_blk hdn (i := 2) rfl; have d3 := cell_blk hdn (i := 3) rfl; have d4 := cell_blk hdn (i := 4) rfl; have d5 := cell_blk hdn (i := 5) rfl; have df := free_blk hdn
      have hvl := lt_of_block hvn
      have hdl := lt_of_block hdn
      have hvH := Lib.hid hvn
      have hdH := Lib.hid hdn
      have hrH := Lib.hid hrn
      have hsH := hsn
      have hownH := hownn
      have hrowH := hrown
      clear hst hrn hvn hdn hsn hownn hrown
      clear hr4 hs4
      go_wp2_with fail
      change bodyPost _ _ _ _ _ (set6 w4 w.heap.size (.int .i64 6) (.int .i64 0) (.string ⟨#[]⟩) (.slice none 0 0) (.slice va _ vc) (.slice none 0 0))
      refine bodyPost_ret (results_to rfl rfl (set6_heap hvH.out)) rfl ?_
      (try rw [hres.out])
      exact rv_bad hsH.out hR hB hrH.out
    have hknH := Lib.hid hkn
    have hstep2 := hstepH.out
    rw [hkn] at hstep2
    simp only [Bool.true_eq_false, if_false] at hstep2
    have hstepH := Lib.hid hstep2
    clear hkn hstep2
    go_wp2_with fail
    refine (ref_name hrH.out).mono ?_
    rintro e w4 hN4
    cases hzf : zeroFrom b (p + 1) with
    | none =>
      rw [hzf] at hN4
      obtain ⟨hst4, rfl, hr4⟩ := hN4
      have hres := Lib.hid (show RES = .bad 2 by rw [hRESH.out, hstepH.out]; unfold nameRes; rw [hzf]; rfl)
      clear hzf
      have hst := hst4
      have hrn := hr4
      have hvn := hst.at hvH.out (by simp; omega)
      have hdn := hst.at hdH.out (by simp; omega)
      have hownn := Lib.hid (ownsRow_step hownH.out hst (fun k hk => by have := hnewH.out k hk; simp; omega))
      have hrown := Lib.hid (hrowH.out.keep (w' := w4) (P2 := fun _ k => w.heap.size + 1 < k ∧ (Value.slice va na vc).ownBlock ≠ some k) (fun _ _ h => h) (fun i k hk hl => (hst.keep k hl (by have := hk.1; simp; omega)).2))
      have hsn := Lib.hid (hsH.out.tail hst)
      (try clear hrlt)
      clear hvH hdH hrH hsH hownH hrowH c0 c1 c2 fR p0 p1 p2 p3 p4 p5 pf d0 d1 d2 d3 d4 d5 df hvl hdl
      have hrlt := lt_of_block hrn.cell
      have c0 := cell_blk hrn.cell (i := 0) rfl; have c1 := cell_blk hrn.cell (i := 1) rfl; have c2 := cell_blk hrn.cell (i := 2) rfl; have fR := free_blk hrn.cell
      have p0 := cell_blk hvn (i := 0) rfl; have p1 := cell_blk hvn (i := 1) rfl; have p2 := cell_blk hvn (i := 2) rfl; have p3 := cell_blk hvn (i := 3) rfl; have p4 := cell_blk hvn (i := 4) rfl; have p5 := cell_blk hvn (i := 5) rfl; have pf := free_blk hvn
      have d0 := cell_blk hdn (i := 0) rfl; have d1 := cell_blk hdn (i := 1) rfl; have d2 := cell_blk hdn (i := 2) rfl; have d3 := cell_blk hdn (i := 3) rfl; have d4 := cell_blk hdn (i := 4) rfl; have d5 := cell_blk hdn (i := 5) rfl; have df := free_blk hdn
      have hvl := lt_of_block hvn
      have hdl := lt_of_block hdn
      have hvH := Lib.hid hvn
      have hdH := Lib.hid hdn
      have hrH := Lib.hid hrn
      have hsH := hsn
      have hownH := hownn
      have hrowH := hrown
      clear hst hrn hvn hdn hsn hownn hrown
      clear hr4 hst4
      rcases Nat.eq_zero_or_pos na with hna0 | hna0
      · go_wp2_with fail
        go_loop [12] (fun i => i = .int .i64 0) (fun _ => 0)
        case atStart => rfl
        case round =>
          subst hrel
          go_wp2_with fail
          change bodyPost _ _ _ _ _ (set6 w4 w.heap.size (.int .i64 6) (.int .i64 0) (.string ⟨#[]⟩) (.slice none 0 0) (.slice va _ vc) (.slice none 0 0))
          refine bodyPost_ret (results_to rfl rfl (set6_heap hvH.out)) rfl ?_
          (try rw [hres.out])
          exact rv_bad hsH.out hR hB hrH.out
      · go_wp2_with fail
        go_loop [12] (fun i => i = .int .i64 0) (fun _ => 0)
        case atStart => rfl
        case round =>
          subst hrel
          go_wp2_with fail
          change bodyPost _ _ _ _ _ (set6 w4 w.heap.size (.int .i64 6) (.int .i64 0) (.string ⟨#[]⟩) (.slice none 0 0) (.slice va _ vc) (.slice none 0 0))
          refine bodyPost_ret (results_to rfl rfl (set6_heap hvH.out)) rfl ?_
          (try rw [hres.out])
          exact rv_bad hsH.out hR hB hrH.out
    | some n =>
      rw [hzf] at hN4
      obtain ⟨hst4, rfl, hr4⟩ := hN4
      have hznb := (zeroFrom_some hzf).1
      obtain ⟨s, hs⟩ : ∃ s, s = (b.drop (p + 1)).take n := ⟨_, rfl⟩
      have hsl : s.length = n := by rw [hs]; exact take_len (by omega)
      rw [← hs]
      obtain ⟨S, hS⟩ : ∃ S, S = strOf s := ⟨_, rfl⟩
      have hSsz : S.size = n := by rw [hS, strOf_size, hsl]
      obtain ⟨q, hq⟩ : ∃ q, q = p + 1 + n + 1 := ⟨_, rfl⟩
      rw [← hq] at hr4
      have hnr : nameRes b (p + 1) = if utf8 s = false then .bad 5 else if 120 < n then .bad 15 else .ok s q := by unfold nameRes; rw [hzf]; simp only [← hs, hsl, ← hq]
      have hu8 := ref_utf8 s w4 (by omega)
      rw [← hS] at hu8 ⊢
      have hstep2 := hstepH.out
      rw [hnr] at hstep2
      have hstepH := Lib.hid hstep2
      have hsH4 := Lib.hid hs
      have hSH := Lib.hid hS
      have hqH := Lib.hid hq
      have hslH := Lib.hid hsl
      have hzfH := Lib.hid hzf
      have hu8H := Lib.hid hu8
      clear hzf hs hsl hS hq hnr hu8 hstep2
      have hst := hst4
      have hrn := hr4
      have hvn := hst.at hvH.out (by simp; omega)
      have hdn := hst.at hdH.out (by simp; omega)
      have hownn := Lib.hid (ownsRow_step hownH.out hst (fun k hk => by have := hnewH.out k hk; simp; omega))
      have hrown := Lib.hid (hrowH.out.keep (w' := w4) (P2 := fun _ k => w.heap.size + 1 < k ∧ (Value.slice va na vc).ownBlock ≠ some k) (fun _ _ h => h) (fun i k hk hl => (hst.keep k hl (by have := hk.1; simp; omega)).2))
      have hsn := Lib.hid (hsH.out.tail hst)
      (try clear hrlt)
      clear hvH hdH hrH hsH hownH hrowH c0 c1 c2 fR p0 p1 p2 p3 p4 p5 pf d0 d1 d2 d3 d4 d5 df hvl hdl
      have hrlt := lt_of_block hrn.cell
      have c0 := cell_blk hrn.cell (i := 0) rfl; have c1 := cell_blk hrn.cell (i := 1) rfl; have c2 := cell_blk hrn.cell (i := 2) rfl; have fR := free_blk hrn.cell
      have p0 := cell_blk hvn (i := 0) rfl; have p1 := cell_blk hvn (i := 1) rfl; have p2 := cell_blk hvn (i := 2) rfl; have p3 := cell_blk hvn (i := 3) rfl; have p4 := cell_blk hvn (i := 4) rfl; have p5 := cell_blk hvn (i := 5) rfl; have pf := free_blk hvn
      have d0 := cell_blk hdn (i := 0) rfl; have d1 := cell_blk hdn (i := 1) rfl; have d2 := cell_blk hdn (i := 2) rfl; have d3 := cell_blk hdn (i := 3) rfl; have d4 := cell_blk hdn (i := 4) rfl; have d5 := cell_blk hdn (i := 5) rfl; have df := free_blk hdn
      have hvl := lt_of_block hvn
      have hdl := lt_of_block hdn
      have hvH := Lib.hid hvn
      have hdH := Lib.hid hdn
      have hrH := Lib.hid hrn
      have hsH := hsn
      have hownH := hownn
      have hrowH := hrown
      clear hst hrn hvn hdn hsn hownn hrown
      clear hr4 hst4
      go_wp2_with fail
      refine hu8H.out.mono ?_
      rintro e w' ⟨rfl, rfl⟩
      cases hu : utf8 s
      · have hres := Lib.hid (show RES = .bad 5 by rw [hRESH.out, hstepH.out, if_pos hu]; rfl)
        clear hu
        go_wp2_with fail
        rcases Nat.eq_zero_or_pos na with hna0 | hna0
        · refine (bad_ok hrH.out 5).mono ?_
          rintro e w5 ⟨rfl, hrx, hsx⟩
          have hst := hsx
          have hrn := hrx
          have hvn := hst.at hvH.out (by simp; omega)
          have hdn := hst.at hdH.out (by simp; omega)
          have hownn := Lib.hid (ownsRow_step hownH.out hst (fun k hk => by have := hnewH.out k hk; simp; omega))
          have hrown := Lib.hid (hrowH.out.keep (w' := w5) (P2 := fun _ k => w.heap.size + 1 < k ∧ (Value.slice va na vc).ownBlock ≠ some k) (fun _ _ h => h) (fun i k hk hl => (hst.keep k hl (by have := hk.1; simp; omega)).2))
          have hsn := Lib.hid (hsH.out.tail hst)
          (try clear hrlt)
          clear hvH hdH hrH hsH hownH hrowH c0 c1 c2 fR p0 p1 p2 p3 p4 p5 pf d0 d1 d2 d3 d4 d5 df hvl hdl
          have hrlt := lt_of_block hrn.cell
          have c0 := cell_blk hrn.cell (i := 0) rfl; have c1 := cell_blk hrn.cell (i := 1) rfl; have c2 := cell_blk hrn.cell (i := 2) rfl; have fR := free_blk hrn.cell
          have p0 := cell_blk hvn (i := 0) rfl; have p1 := cell_blk hvn (i := 1) rfl; have p2 := cell_blk hvn (i := 2) rfl; have p3 := cell_blk hvn (i := 3) rfl; have p4 := cell_blk hvn (i := 4) rfl; have p5 := cell_blk hvn (i := 5) rfl; have pf := free_blk hvn
          have d0 := cell_blk hdn (i := 0) rfl; have d1 := cell_blk hdn (i := 1) rfl; have d2 := cell_blk hdn (i := 2) rfl; have d3 := cell_blk hdn (i := 3) rfl; have d4 := cell_blk hdn (i := 4) rfl; have d5 := cell_blk hdn (i := 5) rfl; have df := free_blk hdn
          have hvl := lt_of_block hvn
          have hdl := lt_of_block hdn
          have hvH := Lib.hid hvn
          have hdH := Lib.hid hdn
          have hrH := Lib.hid hrn
          have hsH := hsn
          have hownH := hownn
          have hrowH := hrown
          clear hst hrn hvn hdn hsn hownn hrown
          clear hrx hsx
          go_wp2_with fail
          go_loop [12] (fun i => i = .int .i64 0) (fun _ => 0)
          case atStart => rfl
          case round =>
            subst hrel
            go_wp2_with fail
            change bodyPost _ _ _ _ _ (set6 w5 w.heap.size (.int .i64 6) (.int .i64 0) (.string ⟨#[]⟩) (.slice none 0 0) (.slice va _ vc) (.slice none 0 0))
            refine bodyPost_ret (results_to rfl rfl (set6_heap hvH.out)) rfl ?_
            (try rw [hres.out])
            exact rv_bad hsH.out hR hB hrH.out
        · refine (bad_ok hrH.out 5).mono ?_
          rintro e w5 ⟨rfl, hrx, hsx⟩
          have hst := hsx
          have hrn := hrx
          have hvn := hst.at hvH.out (by simp; omega)
          have hdn := hst.at hdH.out (by simp; omega)
          have hownn := Lib.hid (ownsRow_step hownH.out hst (fun k hk => by have := hnewH.out k hk; simp; omega))
          have hrown := Lib.hid (hrowH.out.keep (w' := w5) (P2 := fun _ k => w.heap.size + 1 < k ∧ (Value.slice va na vc).ownBlock ≠ some k) (fun _ _ h => h) (fun i k hk hl => (hst.keep k hl (by have := hk.1; simp; omega)).2))
          have hsn := Lib.hid (hsH.out.tail hst)
          (try clear hrlt)
          clear hvH hdH hrH hsH hownH hrowH c0 c1 c2 fR p0 p1 p2 p3 p4 p5 pf d0 d1 d2 d3 d4 d5 df hvl hdl
          have hrlt := lt_of_block hrn.cell
          have c0 := cell_blk hrn.cell (i := 0) rfl; have c1 := cell_blk hrn.cell (i := 1) rfl; have c2 := cell_blk hrn.cell (i := 2) rfl; have fR := free_blk hrn.cell
          have p0 := cell_blk hvn (i := 0) rfl; have p1 := cell_blk hvn (i := 1) rfl; have p2 := cell_blk hvn (i := 2) rfl; have p3 := cell_blk hvn (i := 3) rfl; have p4 := cell_blk hvn (i := 4) rfl; have p5 := cell_blk hvn (i := 5) rfl; have pf := free_blk hvn
          have d0 := cell_blk hdn (i := 0) rfl; have d1 := cell_blk hdn (i := 1) rfl; have d2 := cell_blk hdn (i := 2) rfl; have d3 := cell_blk hdn (i := 3) rfl; have d4 := cell_blk hdn (i := 4) rfl; have d5 := cell_blk hdn (i := 5) rfl; have df := free_blk hdn
          have hvl := lt_of_block hvn
          have hdl := lt_of_block hdn
          have hvH := Lib.hid hvn
          have hdH := Lib.hid hdn
          have hrH := Lib.hid hrn
          have hsH := hsn
          have hownH := hownn
          have hrowH := hrown
          clear hst hrn hvn hdn hsn hownn hrown
          clear hrx hsx
          go_wp2_with fail
          go_loop [12] (fun i => i = .int .i64 0) (fun _ => 0)
          case atStart => rfl
          case round =>
            subst hrel
            go_wp2_with fail
            change bodyPost _ _ _ _ _ (set6 w5 w.heap.size (.int .i64 6) (.int .i64 0) (.string ⟨#[]⟩) (.slice none 0 0) (.slice va _ vc) (.slice none 0 0))
            refine bodyPost_ret (results_to rfl rfl (set6_heap hvH.out)) rfl ?_
            (try rw [hres.out])
            exact rv_bad hsH.out hR hB hrH.out
      have hstep2 := hstepH.out
      rw [hu] at hstep2
      simp only [Bool.true_eq_false, if_false] at hstep2
      have hstepH := Lib.hid hstep2
      clear hu hstep2
      by_cases hl120 : 120 < n
      · have hres := Lib.hid (show RES = .bad 15 by rw [hRESH.out, hstepH.out, if_pos hl120]; rfl)
        have hl1 : (120 : Int) < (n : Int) := by omega
        go_wp2_with fail
        rcases Nat.eq_zero_or_pos na with hna0 | hna0
        · refine (bad_ok hrH.out 15).mono ?_
          rintro e w5 ⟨rfl, hrx, hsx⟩
          have hst := hsx
          have hrn := hrx
          have hvn := hst.at hvH.out (by simp; omega)
          have hdn := hst.at hdH.out (by simp; omega)
          have hownn := Lib.hid (ownsRow_step hownH.out hst (fun k hk => by have := hnewH.out k hk; simp; omega))
          have hrown := Lib.hid (hrowH.out.keep (w' := w5) (P2 := fun _ k => w.heap.size + 1 < k ∧ (Value.slice va na vc).ownBlock ≠ some k) (fun _ _ h => h) (fun i k hk hl => (hst.keep k hl (by have := hk.1; simp; omega)).2))
          have hsn := Lib.hid (hsH.out.tail hst)
          (try clear hrlt)
          clear hvH hdH hrH hsH hownH hrowH c0 c1 c2 fR p0 p1 p2 p3 p4 p5 pf d0 d1 d2 d3 d4 d5 df hvl hdl
          have hrlt := lt_of_block hrn.cell
          have c0 := cell_blk hrn.cell (i := 0) rfl; have c1 := cell_blk hrn.cell (i := 1) rfl; have c2 := cell_blk hrn.cell (i := 2) rfl; have fR := free_blk hrn.cell
          have p0 := cell_blk hvn (i := 0) rfl; have p1 := cell_blk hvn (i := 1) rfl; have p2 := cell_blk hvn (i := 2) rfl; have p3 := cell_blk hvn (i := 3) rfl; have p4 := cell_blk hvn (i := 4) rfl; have p5 := cell_blk hvn (i := 5) rfl; have pf := free_blk hvn
          have d0 := cell_blk hdn (i := 0) rfl; have d1 := cell_blk hdn (i := 1) rfl; have d2 := cell_blk hdn (i := 2) rfl; have d3 := cell_blk hdn (i := 3) rfl; have d4 := cell_blk hdn (i := 4) rfl; have d5 := cell_blk hdn (i := 5) rfl; have df := free_blk hdn
          have hvl := lt_of_block hvn
          have hdl := lt_of_block hdn
          have hvH := Lib.hid hvn
          have hdH := Lib.hid hdn
          have hrH := Lib.hid hrn
          have hsH := hsn
          have hownH := hownn
          have hrowH := hrown
          clear hst hrn hvn hdn hsn hownn hrown
          clear hrx hsx
          go_wp2_with fail
          go_loop [12] (fun i => i = .int .i64 0) (fun _ => 0)
          case atStart => rfl
          case round =>
            subst hrel
            go_wp2_with fail
            change bodyPost _ _ _ _ _ (set6 w5 w.heap.size (.int .i64 6) (.int .i64 0) (.string ⟨#[]⟩) (.slice none 0 0) (.slice va _ vc) (.slice none 0 0))
            refine bodyPost_ret (results_to rfl rfl (set6_heap hvH.out)) rfl ?_
            (try rw [hres.out])
            exact rv_bad hsH.out hR hB hrH.out
        · refine (bad_ok hrH.out 15).mono ?_
          rintro e w5 ⟨rfl, hrx, hsx⟩
          have hst := hsx
          have hrn := hrx
          have hvn := hst.at hvH.out (by simp; omega)
          have hdn := hst.at hdH.out (by simp; omega)
          have hownn := Lib.hid (ownsRow_step hownH.out hst (fun k hk => by have := hnewH.out k hk; simp; omega))
          have hrown := Lib.hid (hrowH.out.keep (w' := w5) (P2 := fun _ k => w.heap.size + 1 < k ∧ (Value.slice va na vc).ownBlock ≠ some k) (fun _ _ h => h) (fun i k hk hl => (hst.keep k hl (by have := hk.1; simp; omega)).2))
          have hsn := Lib.hid (hsH.out.tail hst)
          (try clear hrlt)
          clear hvH hdH hrH hsH hownH hrowH c0 c1 c2 fR p0 p1 p2 p3 p4 p5 pf d0 d1 d2 d3 d4 d5 df hvl hdl
          have hrlt := lt_of_block hrn.cell
          have c0 := cell_blk hrn.cell (i := 0) rfl; have c1 := cell_blk hrn.cell (i := 1) rfl; have c2 := cell_blk hrn.cell (i := 2) rfl; have fR := free_blk hrn.cell
          have p0 := cell_blk hvn (i := 0) rfl; have p1 := cell_blk hvn (i := 1) rfl; have p2 := cell_blk hvn (i := 2) rfl; have p3 := cell_blk hvn (i := 3) rfl; have p4 := cell_blk hvn (i := 4) rfl; have p5 := cell_blk hvn (i := 5) rfl; have pf := free_blk hvn
          have d0 := cell_blk hdn (i := 0) rfl; have d1 := cell_blk hdn (i := 1) rfl; have d2 := cell_blk hdn (i := 2) rfl; have d3 := cell_blk hdn (i := 3) rfl; have d4 := cell_blk hdn (i := 4) rfl; have d5 := cell_blk hdn (i := 5) rfl; have df := free_blk hdn
          have hvl := lt_of_block hvn
          have hdl := lt_of_block hdn
          have hvH := Lib.hid hvn
          have hdH := Lib.hid hdn
          have hrH := Lib.hid hrn
          have hsH := hsn
          have hownH := hownn
          have hrowH := hrown
          clear hst hrn hvn hdn hsn hownn hrown
          clear hrx hsx
          go_wp2_with fail
          go_loop [12] (fun i => i = .int .i64 0) (fun _ => 0)
          case atStart => rfl
          case round =>
            subst hrel
            go_wp2_with fail
            change bodyPost _ _ _ _ _ (set6 w5 w.heap.size (.int .i64 6) (.int .i64 0) (.string ⟨#[]⟩) (.slice none 0 0) (.slice va _ vc) (.slice none 0 0))
            refine bodyPost_ret (results_to rfl rfl (set6_heap hvH.out)) rfl ?_
            (try rw [hres.out])
            exact rv_bad hsH.out hR hB hrH.out
      have hl1 : ¬ (120 : Int) < (n : Int) := by omega
      have hl2 : (n : Int) ≤ 120 := by omega
      have hstep2 := hstepH.out
      rw [if_neg hl120] at hstep2
      simp only at hstep2
      have hstepH := Lib.hid hstep2
      clear hstep2 hl120
      go_wp2_with fail
      go_loopw [12] (fun i wr => DupR w4 R B o c b q acc s i wr) (fun i _ => na - (intOf i).toNat)
      case atStart => exact ⟨0, rfl, Nat.zero_le _, Step.refl _ _ _, .inl ⟨hrH.out, fun t _ h => by omega⟩⟩
      case round =>
        obtain ⟨j, rfl, hj, hst5, hcase⟩ := hrel
        rw [← hnaH.out] at hj
        rcases hcase with ⟨hr5, hno⟩ | ⟨hr5, hin⟩
        · have hst := hst5
          have hrn := hr5
          have hvn := hst.at hvH.out (by simp; omega)
          have hdn := hst.at hdH.out (by simp; omega)
          have hownn := Lib.hid (ownsRow_step hownH.out hst (fun k hk => by have := hnewH.out k hk; simp; omega))
          have hrown := Lib.hid (hrowH.out.keep (w' := wr) (P2 := fun _ k => w.heap.size + 1 < k ∧ (Value.slice va na vc).ownBlock ≠ some k) (fun _ _ h => h) (fun i k hk hl => (hst.keep k hl (by have := hk.1; simp; omega)).2))
          have hsn := Lib.hid (hsH.out.tail hst)
          (try clear hrlt)
          clear hvH hdH hrH hsH hownH hrowH c0 c1 c2 fR p0 p1 p2 p3 p4 p5 pf d0 d1 d2 d3 d4 d5 df hvl hdl
          have hrlt := lt_of_block hrn.cell
          have c0 := cell_blk hrn.cell (i := 0) rfl; have c1 := cell_blk hrn.cell (i := 1) rfl; have c2 := cell_blk hrn.cell (i := 2) rfl; have fR := free_blk hrn.cell
          have p0 := cell_blk hvn (i := 0) rfl; have p1 := cell_blk hvn (i := 1) rfl; have p2 := cell_blk hvn (i := 2) rfl; have p3 := cell_blk hvn (i := 3) rfl; have p4 := cell_blk hvn (i := 4) rfl; have p5 := cell_blk hvn (i := 5) rfl; have pf := free_blk hvn
          have d0 := cell_blk hdn (i := 0) rfl; have d1 := cell_blk hdn (i := 1) rfl; have d2 := cell_blk hdn (i := 2) rfl; have d3 := cell_blk hdn (i := 3) rfl; have d4 := cell_blk hdn (i := 4) rfl; have d5 := cell_blk hdn (i := 5) rfl; have df := free_blk hdn
          have hvl := lt_of_block hvn
          have hdl := lt_of_block hdn
          have hvH := Lib.hid hvn
          have hdH := Lib.hid hdn
          have hrH := Lib.hid hrn
          have hsH := hsn
          have hownH := hownn
          have hrowH := hrown
          clear hst hrn hvn hdn hsn hownn hrown
          have hs45H := Lib.hid hst5
          have hnoH := Lib.hid hno
          clear hr5 hst5 hno
          by_cases hjl : j < na
          · have hjl1 : (j : Int) < (na : Int) := by omega
            have hj0 : (0 : Int) ≤ (j : Int) := by omega
            have hjf : j < acc.length := by rw [← hnaH.out]; exact hjl
            obtain ⟨gb, hva⟩ : ∃ gb, va = some ⟨gb, 0, none⟩ := by
              rcases hownH.out.2 with ⟨e, -⟩ | ⟨g, cap, cur, e, -⟩
              · injection e with _ e2 _; omega
              · injection e with e1 _ _; exact ⟨g, e1⟩
            subst hva
            obtain ⟨-, cs0, hpc, -⟩ := hrowH.out.2 j hjf
            obtain ⟨S1, hS1⟩ : ∃ S1, S1 = strOf acc[j].1 := ⟨_, rfl⟩
            have hn0 : wr.cell? ⟨gb, j * 7, none⟩ = some (.string S1) := by
              have h8 := World.ownsRow.cells hownH.out (g := gb) rfl (j * 7) (.string S1) (by
                have := piece_get 7 xs j 0 (by omega)
                rw [hpc, ← hS1] at this
                exact this.symm)
              simpa [addr_add] using h8
            have hw5 : IntKind.i64.wrap ((j : Int) + 1) = (j : Int) + 1 := IntWalk.i64_in _ (by omega)
            by_cases heq : acc[j].1 = s
            · have hcmp : (S1.toList == S.toList) = true := by rw [hS1, hSH.out, heq]; simp
              have heqH := Lib.hid heq
              clear hpc hS1 heq
              go_wp2_with fail
              refine (bad_ok hrH.out 6).mono ?_
              rintro e w5 ⟨rfl, hr5, hs5⟩
              have hr5H := Lib.hid hr5
              have hs5H := Lib.hid hs5
              clear hr5 hs5
              go_wp2_with fail
              go_roundw
              case rel => exact ⟨j + 1, by go_num, by omega, hs45H.out.tail hs5H.out, .inr ⟨hr5H.out, by rw [← heqH.out]; exact List.mem_map_of_mem (List.getElem_mem hjf)⟩⟩
              case measure => simp [intOf]; omega
            · have hcmp : (S1.toList == S.toList) = false := by rw [hS1, hSH.out, strOf_list, strOf_list, beq_eq_false_iff_ne]; exact heq
              have heqH := Lib.hid heq
              clear hpc hS1 heq
              go_wp2_with fail
              go_roundw
              case rel =>
                refine ⟨j + 1, by go_num, by omega, hs45H.out, .inl ⟨hrH.out, fun t ht htj => ?_⟩⟩
                rcases Nat.lt_or_ge t j with h | h
                · exact hnoH.out t ht h
                · obtain rfl : t = j := by omega
                  exact heqH.out
              case measure => simp [intOf]; omega
          · have hjl1 : ¬ (j : Int) < (na : Int) := by omega
            have hno2 : s ∉ acc.map (·.1) := fun hm => by
              obtain ⟨x, hx, rfl⟩ := List.mem_map.1 hm
              obtain ⟨t, ht, rfl⟩ := List.getElem_of_mem hx
              exact hnoH.out t ht (by have := hnaH.out; omega) rfl
            have hstep2 := hstepH.out
            rw [if_neg (by simp), if_neg hno2] at hstep2
            have hstepH := Lib.hid hstep2
            clear hstep2
            go_wp2_with fail
            have hvc := ref_value (k := k0) hVH.out hfu hdp hknH.out hrH.out
            rw [← hyH.out, ← hrecH.out] at hvc
            refine hvc.mono ?_
            clear hvc
            rintro e w6 hP
            cases hdv : decV b rec_ k0 q with
            | bad er =>
              rw [hdv] at hP
              obtain ⟨hst6, k1, n1, s1, ba1, bn1, bc1, fa1, fn1, fc1, la1, ln1, lc1, rfl, a2, hr6⟩ := hP
              have her : er ≠ 0 := decV_bad (fun items a n h => by rw [hrecH.out] at h; exact decDoc_bad _ _ _ _ _ h) hdv
              have hres := Lib.hid (show RES = .bad er by rw [hRESH.out, hstepH.out, hdv]; rfl)
              have her2 : (er != 0) = true := by rw [bne_iff_ne]; exact her
              have hst := hst6
              have hrn := hr6
              have hvn := hst.at hvH.out (by simp; omega)
              have hdn := hst.at hdH.out (by simp; omega)
              have hownn := Lib.hid (ownsRow_step hownH.out hst (fun k hk => by have := hnewH.out k hk; simp; omega))
              have hrown := Lib.hid (hrowH.out.keep (w' := w6) (P2 := fun _ k => w.heap.size + 1 < k ∧ (Value.slice va na vc).ownBlock ≠ some k) (fun _ _ h => h) (fun i k hk hl => (hst.keep k hl (by have := hk.1; simp; omega)).2))
              have hsn := Lib.hid (hsH.out.tail hst)
              (try clear hrlt)
              clear hvH hdH hrH hsH hownH hrowH c0 c1 c2 fR p0 p1 p2 p3 p4 p5 pf d0 d1 d2 d3 d4 d5 df hvl hdl
              have hrlt := lt_of_block hrn.cell
              have c0 := cell_blk hrn.cell (i := 0) rfl; have c1 := cell_blk hrn.cell (i := 1) rfl; have c2 := cell_blk hrn.cell (i := 2) rfl; have fR := free_blk hrn.cell
              have p0 := cell_blk hvn (i := 0) rfl; have p1 := cell_blk hvn (i := 1) rfl; have p2 := cell_blk hvn (i := 2) rfl; have p3 := cell_blk hvn (i := 3) rfl; have p4 := cell_blk hvn (i := 4) rfl; have p5 := cell_blk hvn (i := 5) rfl; have pf := free_blk hvn
              have d0 := cell_blk hdn (i := 0) rfl; have d1 := cell_blk hdn (i := 1) rfl; have d2 := cell_blk hdn (i := 2) rfl; have d3 := cell_blk hdn (i := 3) rfl; have d4 := cell_blk hdn (i := 4) rfl; have d5 := cell_blk hdn (i := 5) rfl; have df := free_blk hdn
              have hvl := lt_of_block hvn
              have hdl := lt_of_block hdn
              have hvH := Lib.hid hvn
              have hdH := Lib.hid hdn
              have hrH := Lib.hid hrn
              have hsH := hsn
              have hownH := hownn
              have hrowH := hrown
              clear hst hrn hvn hdn hsn hownn hrown
              clear hr6 hst6 hdv her
              go_wp2_with fail
              change bodyPost _ _ _ _ _ ((set6 w6 w.heap.size (.int .i64 6) (.int .i64 0) (.string ⟨#[]⟩) (.slice none 0 0) (.slice va na vc) (.slice none 0 0)).alloc (.cells #[.int .i64 k1, .int .i64 n1, .string s1, .slice ba1 bn1 bc1, .slice fa1 fn1 fc1, .slice la1 ln1 lc1] 27))
              refine bodyPost_ret (results_to rfl rfl (alloc_old (set6_heap hvH.out))) rfl ?_
              rw [hres.out]
              exact rv_more (rv_bad hsH.out hR hB hrH.out) (Step.alloc _)
            | ok v a2 =>
              rw [hdv] at hP
              obtain ⟨hst6, cs, rfl, hx, hr6⟩ := hP
              have hgt2 := (decV_gt (deep := deep) (fun items a f a' h => by rw [hrecH.out] at h; exact decDoc_sound b g (deep + 1) items a f a' h) (by have := hrH.out.le; exact this) hdv)
              have hT4 := hstepH.out
              rw [hdv] at hT4
              simp only [Res.bind] at hT4
              have hT4H := Lib.hid hT4
              have hlt5 := fun k (h : (Value.slice va na vc).ownBlock = some k) => (World.ownsRow.lt hownH.out k h).2
              have hlt5H := Lib.hid hlt5
              have hD5 := lt_of_block hdH.out
              have hone := hx.one
              have hlen6 := hx.len
              obtain ⟨s1, ba1, bn1, bc1, fa1, fn1, fc1, la1, ln1, lc1, hcs, -⟩ := hx.six
              obtain ⟨kk, hkk⟩ : ∃ k, k = v.kind := ⟨_, rfl⟩
              obtain ⟨nn, hnn⟩ : ∃ k, k = v.num := ⟨_, rfl⟩
              rw [← hkk, ← hnn] at hcs
              have hxb := VIs.below v cs hx
              have hst6s := hst6.size
              have hst := hst6
              have hrn := hr6
              have hvn := hst.at hvH.out (by simp; omega)
              have hdn := hst.at hdH.out (by simp; omega)
              have hownn := Lib.hid (ownsRow_step hownH.out hst (fun k hk => by have := hnewH.out k hk; simp; omega))
              have hrown := Lib.hid (hrowH.out.keep (w' := w6) (P2 := fun _ k => w.heap.size + 1 < k ∧ (Value.slice va na vc).ownBlock ≠ some k) (fun _ _ h => h) (fun i k hk hl => (hst.keep k hl (by have := hk.1; simp; omega)).2))
              have hsn := Lib.hid (hsH.out.tail hst)
              (try clear hrlt)
              clear hvH hdH hrH hsH hownH hrowH c0 c1 c2 fR p0 p1 p2 p3 p4 p5 pf d0 d1 d2 d3 d4 d5 df hvl hdl
              have hrlt := lt_of_block hrn.cell
              have c0 := cell_blk hrn.cell (i := 0) rfl; have c1 := cell_blk hrn.cell (i := 1) rfl; have c2 := cell_blk hrn.cell (i := 2) rfl; have fR := free_blk hrn.cell
              have p0 := cell_blk hvn (i := 0) rfl; have p1 := cell_blk hvn (i := 1) rfl; have p2 := cell_blk hvn (i := 2) rfl; have p3 := cell_blk hvn (i := 3) rfl; have p4 := cell_blk hvn (i := 4) rfl; have p5 := cell_blk hvn (i := 5) rfl; have pf := free_blk hvn
              have d0 := cell_blk hdn (i := 0) rfl; have d1 := cell_blk hdn (i := 1) rfl; have d2 := cell_blk hdn (i := 2) rfl; have d3 := cell_blk hdn (i := 3) rfl; have d4 := cell_blk hdn (i := 4) rfl; have d5 := cell_blk hdn (i := 5) rfl; have df := free_blk hdn
              have hvl := lt_of_block hvn
              have hdl := lt_of_block hdn
              have hvH := Lib.hid hvn
              have hdH := Lib.hid hdn
              have hrH := Lib.hid hrn
              have hsH := hsn
              have hownH := hownn
              have hrowH := hrown
              clear hst hrn hvn hdn hsn hownn hrown
              obtain ⟨W7, hW7⟩ : ∃ W7, W7 = w6.alloc (.cells #[.int .i64 kk, .int .i64 nn, .string s1, .slice ba1 bn1 bc1, .slice fa1 fn1 fc1, .slice la1 ln1 lc1] 27) := ⟨_, rfl⟩
              obtain ⟨W8, hW8⟩ : ∃ W8, W8 = W7.alloc (.cells #[.string S, .int .i64 kk, .int .i64 nn, .string s1, .slice ba1 bn1 bc1, .slice fa1 fn1 fc1, .slice la1 ln1 lc1] 44) := ⟨_, rfl⟩
              have hst68 : Step [] id id w6 W8 := by rw [hW8, hW7]; exact (Step.alloc _).tail (Step.alloc _)
              have hsrc : Src W8 7 (.slice (some ⟨W7.heap.size, 0, none⟩) 1 1) 1 (.string S :: cs) := by
                refine ⟨by simp [hlen6], .inr ⟨_, 1, rfl, fun t u ht => ?_⟩⟩
                rw [hcs] at ht
                rw [addr_add, Nat.zero_add, hW8]
                exact cell_blk (heap_alloc_new W7 _) (by rw [← ht]; simp)
              have hown8 := ownsRow_step hownH.out hst68 (fun k _ => by simp)
              have hone1 : ∀ u ∈ (.string S :: cs), u.oneCell' = true := fun u hu => by
                rcases List.mem_cons.1 hu with rfl | hu
                · rfl
                · exact hone u hu
              have hdd8 := hst68.at hdH.out (by simp)
              have hvv8 := hst68.at hvH.out (by simp)
              have hW7s : W7.heap.size = w6.heap.size + 1 := by rw [hW7]; simp
              have hW8s : W8.heap.size = w6.heap.size + 1 + 1 := by rw [hW8]; simp [hW7s]
              have hb7 : (w6.alloc (.cells #[.int .i64 kk, .int .i64 nn, .string s1, .slice ba1 bn1 bc1, .slice fa1 fn1 fc1, .slice la1 ln1 lc1] 27)).heap.size = w6.heap.size + 1 := by rw [← hW7]; exact hW7s
              obtain ⟨i0, hi, hz0, hz1, hz2⟩ := info_split info_field
              have hiH := Lib.hid hi
              have hz0H := Lib.hid hz0
              have hz1H := Lib.hid hz1
              have hz2H := Lib.hid hz2
              have hsrcH := Lib.hid hsrc
              have hown8H := Lib.hid hown8
              have hone1H := Lib.hid hone1
              have hst68H := Lib.hid hst68
              have hxH := Lib.hid hxb
              have hW7H := Lib.hid hW7
              have hW8H := Lib.hid hW8
              have hW7sH := Lib.hid hW7s
              have hW8sH := Lib.hid hW8s
              have hb7H := Lib.hid hb7
              have hdd8H := Lib.hid hdd8
              have hvv8H := Lib.hid hvv8
              have hcsH := Lib.hid hcs
              rw [hcs]
              clear hone hlen6 hkk hnn hxb hsrc hown8 hone1 hi hz0 hz1 hz2 hst68 hr6 hst6 hx hcs hW7 hW8 hW7s hW8s hb7 hdd8 hvv8 hdv hT4 hlt5
              have hnm2 : ¬ 140737488355328 < na + 1 := by omega
              go_wp2_with (at_builtin; (try rw [← hW7H.out]); (try rw [← hW8H.out]); refine wpList_app rfl _ _ 24 rfl 44 i0 _ 7 120 Tryd.underlying24 hiH.out hz0H.out hz1H.out hz2H.out rfl (by decide) (.slice va na vc) na xs (by rfl) hown8H.out (.slice (some ⟨W7.heap.size, 0, none⟩) 1 1) 1 (.string S :: cs) (by first | rfl | (rw [hW7sH.out]; rfl)) hsrcH.out (by exact hone1H.out) (by omega) (by omega) ?_; intro ad' c' w9 hown9 hgrow9 hnil9 hat9; have hdd9 := (hgrow9.block _ (lt_of_block hdd8H.out) (fun e => by have := hnewH.out _ e.symm; omega)).trans hdd8H.out; have x4 := cell_blk hdd9 (i := 4) rfl; have xf := free_blk hdd9; have hdd9H := Lib.hid hdd9; have hown9H := Lib.hid hown9; have hgrow9H := Lib.hid hgrow9; have hat9H := Lib.hid hat9; clear hown9 hgrow9 hnil9 hat9 hdd9)
              go_roundg (b.length - a2)
              case measure => have := hqH.out; omega
              case rel =>
                have hna2 := hnaH.out
                have hlen2 : (acc ++ [(s, v)]).length = na + 1 := by rw [List.length_append, ← hna2]; rfl
                obtain ⟨W10, hW10⟩ : ∃ W10, W10 = w9.setCell ⟨w.heap.size + 1, 4, none⟩ (.slice ad' (na + 1) c') := ⟨_, rfl⟩
                rw [← hW10]
                have hg10 : Step [w.heap.size + 1] id id w9 W10 := by rw [hW10]; exact Step.set _ _ (by simp)
                have hs89 : Step (Value.slice va na vc).ownBlock.toList id id W8 w9 := .grown hgrow9H.out (fun k hk => by rw [hk]; simp)
                have z8 := hW8sH.out
                have z89 := hs89.size
                have zw6 := hsH.out.size
                have hnew9 : ∀ k, (Value.slice ad' (na + 1) c').ownBlock = some k → (Value.slice va na vc).ownBlock = some k ∨ k = W8.heap.size := fun k hk => by
                  rcases hat9H.out with h | h
                  · exact .inl (by rw [← h]; exact hk)
                  · rw [h] at hk; cases hk; exact .inr rfl
                have hownD : ∀ k, (Value.slice ad' (na + 1) c').ownBlock = some k → w.heap.size + 1 < k := fun k hk => by
                  rcases hnew9 k hk with h | h
                  · exact hnewH.out k h
                  · omega
                have hown0 : ∀ r ∈ (Value.slice va na vc).ownBlock.toList, w.heap.size + 1 < r := fun r hr => hnewH.out r (by rwa [Option.mem_toList] at hr)
                have hst : Step [R] id id w W10 := ((hsH.out.tail (hst68H.out.mono (fun _ h => by cases h))).tailNew hs89 (fun r hr => .inr (by have := hown0 r hr; omega))).tailNew hg10 (by simp)
                have hk610 : ∀ k, k < w6.heap.size → (Value.slice va na vc).ownBlock ≠ some k → k ≠ w.heap.size + 1 → W10.heap[k]? = w6.heap[k]? := fun k hk h1 h2 =>
                  ((hg10.keep k (by omega) (by simpa using h2)).2).trans ((hgrow9H.out.block k (by omega) (fun e => h1 e.symm)).trans ((hst68H.out.keep k hk (by simp)).2))
                have hqq := hqH.out
                have hRo : R ∉ (Value.slice va na vc).ownBlock.toList := fun hr => by have := hown0 R hr; omega
                have hBo : B ∉ (Value.slice va na vc).ownBlock.toList := fun hr => by have := hown0 B hr; omega
                have hx10 : VIs (fun k => w.heap.size + 1 < k ∧ (Value.slice ad' (na + 1) c').ownBlock ≠ some k) W10 v cs := hxH.out.keep (fun k hk => ⟨by omega, fun e => by
                  rcases hnew9 k e with h | h
                  · have := hlt5H.out k h; omega
                  · omega⟩) (fun k hk hl => hk610 k hl (fun e => by have := hlt5H.out k e; omega) (by omega))
                have hrow10 := hrowH.out.below.keep (w' := W10) (P2 := fun _ k => w.heap.size + 1 < k ∧ (Value.slice ad' (na + 1) c').ownBlock ≠ some k) (fun i k hk => ⟨hk.1.1, fun e => by
                  rcases hnew9 k e with h | h
                  · exact hk.1.2 h
                  · omega⟩) (fun i k hk hl => hk610 k hl hk.1.2 (by have := hk.1.1; omega))
                refine ⟨acc ++ [(s, v)], a2, fl, ad', c', xs ++ (.string S :: cs), rfl, by omega, by rw [hlen2]; omega, hT4H.out.symm, ((hrH.out.step hst68H.out).off hs89 hRo hBo).off hg10 (by simp; omega) (by simp; omega), (hk610 _ (by omega) (fun e => by have := hnewH.out _ e; omega) (by omega)).trans hvH.out, ?_, ?_, ?_, by rw [hlen2]; exact hownD, hst⟩
                · rw [hlen2, hW10]
                  have := set_blk hdd9H.out 4 (.slice ad' (na + 1) c')
                  simpa using this
                · rw [hlen2]
                  exact ownsRow_step hown9H.out hg10 (fun k hk => by have := hownD k hk; simp; omega)
                · rw [hlen2, hSH.out]
                  exact hrow10.more (by rw [hslH.out]; omega) hx10.len hx10
        · have hst := hst5
          have hrn := hr5
          have hvn := hst.at hvH.out (by simp; omega)
          have hdn := hst.at hdH.out (by simp; omega)
          have hownn := Lib.hid (ownsRow_step hownH.out hst (fun k hk => by have := hnewH.out k hk; simp; omega))
          have hrown := Lib.hid (hrowH.out.keep (w' := wr) (P2 := fun _ k => w.heap.size + 1 < k ∧ (Value.slice va na vc).ownBlock ≠ some k) (fun _ _ h => h) (fun i k hk hl => (hst.keep k hl (by have := hk.1; simp; omega)).2))
          have hsn := Lib.hid (hsH.out.tail hst)
          (try clear hrlt)
          clear hvH hdH hrH hsH hownH hrowH c0 c1 c2 fR p0 p1 p2 p3 p4 p5 pf d0 d1 d2 d3 d4 d5 df hvl hdl
          have hrlt := lt_of_block hrn.cell
          have c0 := cell_blk hrn.cell (i := 0) rfl; have c1 := cell_blk hrn.cell (i := 1) rfl; have c2 := cell_blk hrn.cell (i := 2) rfl; have fR := free_blk hrn.cell
          have p0 := cell_blk hvn (i := 0) rfl; have p1 := cell_blk hvn (i := 1) rfl; have p2 := cell_blk hvn (i := 2) rfl; have p3 := cell_blk hvn (i := 3) rfl; have p4 := cell_blk hvn (i := 4) rfl; have p5 := cell_blk hvn (i := 5) rfl; have pf := free_blk hvn
          have d0 := cell_blk hdn (i := 0) rfl; have d1 := cell_blk hdn (i := 1) rfl; have d2 := cell_blk hdn (i := 2) rfl; have d3 := cell_blk hdn (i := 3) rfl; have d4 := cell_blk hdn (i := 4) rfl; have d5 := cell_blk hdn (i := 5) rfl; have df := free_blk hdn
          have hvl := lt_of_block hvn
          have hdl := lt_of_block hdn
          have hvH := Lib.hid hvn
          have hdH := Lib.hid hdn
          have hrH := Lib.hid hrn
          have hsH := hsn
          have hownH := hownn
          have hrowH := hrown
          clear hst hrn hvn hdn hsn hownn hrown
          have hres := Lib.hid (show RES = .bad 6 by rw [hRESH.out, hstepH.out, if_neg (by simp), if_pos hin]; rfl)
          clear hr5 hst5 hin
          by_cases hjl : j < na
          · have hjl1 : (j : Int) < (na : Int) := by omega
            go_wp2_with fail
            change bodyPost _ _ _ _ _ (set6 wr w.heap.size (.int .i64 6) (.int .i64 0) (.string ⟨#[]⟩) (.slice none 0 0) (.slice va _ vc) (.slice none 0 0))
            refine bodyPost_ret (results_to rfl rfl (set6_heap hvH.out)) rfl ?_
            (try rw [hres.out])
            exact rv_bad hsH.out hR hB hrH.out
          · have hjl1 : ¬ (j : Int) < (na : Int) := by omega
            go_wp2_with fail
            change bodyPost _ _ _ _ _ (set6 wr w.heap.size (.int .i64 6) (.int .i64 0) (.string ⟨#[]⟩) (.slice none 0 0) (.slice va _ vc) (.slice none 0 0))
            refine bodyPost_ret (results_to rfl rfl (set6_heap hvH.out)) rfl ?_
            (try rw [hres.out])
            exact rv_bad hsH.out hR hB hrH.out

end Go.Proofs.YtbkmnhogfegmcaaDoor
