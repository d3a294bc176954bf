/- The reference: own: documents. A row's fields, one more. The reference: own: lists. The reference: own: texts, bytes. The reference: own, whole; Encode. The reference's May: of small values it tells something. -/
import Derived.Test.YtembpajlllnncaaGreatDoorAqP7
import Derived.Test.YtembpajlllnncaaGreatDoorAcK1
import Derived.Test.YtembpajlllnncaaGreatDoorAcC6
import Derived.Test.YtembpajlllnncaaGreatDoorAcOp
set_option linter.unusedVariables false
set_option linter.unusedSimpArgs false
namespace Go.Proofs.YtembpajlllnncaaGreatDoor
open Go.RowKit

theorem okV_doc {d : Nat} {n : Int} {s b : Bs} {f : List (Bs × Val)} {l : List Val} : okV d (.mk 6 n s b f l) = (bareB (.mk 6 n s b f l) false false false true false && (decide (d + 1 ≤ 32) && okFs (d + 1) [] f)) ∧ encV (.mk 6 n s b f l) = wrapDoc (encFs f) := by
 rw [okV, encV]; simp [Val.plain, bareB, codeOf]
set_option maxRecDepth 100000 in
set_option maxHeartbeats 8000000 in
theorem own_docQ {d : Nat} {k n : Int} {s b : Bs} {f : List (Bs × Val)} {l : List Val} (hk : k = 6) (hq : d + 1 ≤ 32 → ∀ j (h : j < f.length), OwnQC f[j].2 (d + 1)) (hl3 : f.length ≤ 3001) (hnm : ∀ j (h : j < f.length), f[j].1.length ≤ 3001) (hd : d ≤ 40) : OwnQC (.mk k n s b f l) d := by
 intro P cs w hx
 obtain ⟨bv, fa, fc, la, lc, hcs, hb, ⟨hfc, hlc, hfz, hlz⟩, ⟨hk1, hk2, hn1, hn2⟩, -, hf, hl⟩ := hx.cells
 obtain ⟨ba, bc, rfl⟩ := hb.shape
 simp only [Val.kind, Val.num, Val.s, Val.b, Val.f, Val.l] at *
 obtain ⟨S0, hS0⟩ : ∃ k, k = strOf s := ⟨_, rfl⟩
 obtain ⟨bn, hbn⟩ : ∃ k, k = b.length := ⟨_, rfl⟩
 obtain ⟨ln, hln⟩ : ∃ k, k = l.length := ⟨_, rfl⟩
 obtain ⟨fn, hfn⟩ : ∃ k, k = f.length := ⟨_, rfl⟩
 rw [← hS0, ← hbn, ← hln, ← hfn] at hcs
 rw [← hbn] at hb
 subst hcs
 obtain ⟨W1, hW1⟩ : ∃ W1, W1 = w.alloc (.cells #[.int .i64 k, .int .i64 n, .string S0, .slice ba bn bc, .slice fa fn fc, .slice la ln lc] 35) := ⟨_, rfl⟩
 have hst1 : Step [] id id w W1 := by rw [hW1]; exact Step.alloc _
 have hV : W1.heap[w.heap.size]? = some (.cells #[.int .i64 k, .int .i64 n, .string S0, .slice ba bn bc, .slice fa fn fc, .slice la ln lc] 35 (0, 0)) := by rw [hW1]; exact heap_alloc_new _ _
 have hx1 := hx.keep (P2 := P) (w' := W1) (fun _ h => h) (fun k hP hk => (hst1.keep k hk (by simp)).2)
 obtain ⟨v0, v1, v2, v3, v4, v5⟩ := cells_of6P hV
 have hVl : w.heap.size < W1.heap.size := lt_of_block hV
 have hVH := Lib.hid hV
 have hx1H := Lib.hid hx1
 have hW1H := Lib.hid hW1
 have hst1H := Lib.hid hst1
 have hS0H := Lib.hid hS0
 have hbnH := Lib.hid hbn
 have hlnH := Lib.hid hln
 have hfnH := Lib.hid hfn
 have hbH := Lib.hid hb
 have hfH := Lib.hid hf
 have hlH := Lib.hid hl
 clear hx hb hf hl hS0 hbn hln hfn hst1 hV hx1 hW1 hfc hlc hfz hlz hk1 hk2
 subst hk
 obtain ⟨he, hen⟩ := okV_doc (d := d) (n := n) (s := s) (b := b) (f := f) (l := l)
 have hbc := Lib.hid (ref_bare_f hx1H.out)
 have heH := Lib.hid he
 have henH := Lib.hid hen
 have hqH := Lib.hid hq
 have hnmH := Lib.hid hnm
 have hl3H := Lib.hid hl3
 clear he hen hq hnm hl3
 obtain ⟨r, hr⟩ : ∃ r, r = bareB (.mk 6 n s b f l) false false false true false := ⟨_, rfl⟩
 have hrH := Lib.hid hr
 clear hr
 go_enter Tryz.func43, Tryz.ntmps43
 go_wp2_with fail
 rw [← hW1H.out]
 refine hbc.out.mono ?_
 rintro e w2 ⟨rfl, hs2⟩
 rw [← hrH.out]
 obtain ⟨v0, v1, v2, v3, v4, v5⟩ := cells_of6P (hs2.at hVH.out (by simp))
 have hVl2 : w.heap.size < w2.heap.size := World.block_lt_of_cell? w2 _ v0
 have hs2H := Lib.hid hs2
 clear hs2
 cases r
 ·have hokH := Lib.hid (show okQ d (.mk 6 n s b f l) = false by unfold okQ; rw [heH.out, ← hrH.out]; rfl)
  go_wp2_with fail
  go_ret2
  exact ⟨none, 0, 0, by rw [hokH.out]; rfl, fun h => absurd h (by rw [hokH.out]; simp), hst1H.out.tail hs2H.out⟩
 ·by_cases h32 : d + 1 ≤ 32
  ·have hdi : ¬ (32 : Int) < (d : Int) + 1 := by omega
   have hc := Lib.hid (fields_full (P := P) (w := w2) (fc := fc) (d := d + 1) (hqH.out h32) hl3H.out hnmH.out (by omega) hfnH.out (FIs.keep (P2 := P) (fun _ h => h) (fun k hP hk => ((hst1H.out.tail hs2H.out).keep k hk (by simp)).2) f fa 0 hfH.out))
   go_wp2_with fail
   refine hc.out.mono ?_
   rintro e w3 ⟨xa, xn, xc, rfl, hrow, hs3⟩
   have hrowH := Lib.hid hrow
   have hs3H := Lib.hid hs3
   clear hrow hs3 v0 v1 v2 v3 v4 v5
   go_wp2_with fail
   go_ret2
   have ho : okQ d (.mk 6 n s b f l) = okFq (d + 1) f := by
    unfold okQ okFq
    rw [heH.out, ← hrH.out, decide_eq_true h32, henH.out, wrapDoc_length]; rfl
   refine ⟨xa, xn, xc, by rw [ho]; rfl, fun h => ?_, (hst1H.out.tail hs2H.out).tail hs3H.out⟩
   rw [ho] at h
   obtain ⟨h1, h2⟩ := hrowH.out h
   rw [henH.out]
   exact ⟨h1.len, row_bin h1 (fun k hk => .inr (by have := h2 k hk; omega))⟩
  ·have hdi : (32 : Int) < (d : Int) + 1 := by omega
   have hokH := Lib.hid (show okQ d (.mk 6 n s b f l) = false by unfold okQ; rw [heH.out, ← hrH.out, decide_eq_false h32]; rfl)
   go_wp2_with fail
   go_ret2
   exact ⟨none, 0, 0, by rw [hokH.out]; rfl, fun h => absurd h (by rw [hokH.out]; simp), hst1H.out.tail hs2H.out⟩
theorem own_doc (N : Nat) (ih : OwnC N) {P : Nat → Prop} {w : World} {d : Nat} {k n : Int} {s b : Bs} {f : List (Bs × Val)} {l : List Val} {cs : List Value} (hk : k = 6) (hx : VIs P w (.mk k n s b f l) cs) (hfs : ∀ j (h : j < f.length), SizeOf.sizeOf f[j].2 < N) (hw : weightFs f ≤ 3001) (hwx : weightV (.mk k n s b f l) ≤ 3001) (hd : d ≤ 40) :
  Calls Tryz.prog 43 #[.agg cs.toArray, .int .i64 ((d : Int) + 1)] w (OwnP P (.mk k n s b f l) d w) :=
 (own_docQ hk (fun h32 j h => ih.q (hfs j h) (by have := weightFs_getP f j h; omega) (by omega)) (by have := weightFs_lenP f; omega) (fun j h => by have := weightFs_name2 f j h; omega) hd P cs w hx).mono fun _ _ h => okQ_to hwx h
end Go.Proofs.YtembpajlllnncaaGreatDoor
namespace Go.Proofs.YtembpajlllnncaaGreatDoor
open Go.RowKit

section
variable {P : Nat → Prop} {w : World}
/-- .. and one more behind. -/
theorem FRow.snoc {f : List (Bs × Val)} {xs : List Value} (hr : FRow (fun _ => P) w f xs) {nm : Bs} {y : Val} {cs : List Value} (hn : nm.length ≤ 140737488351232) (hc : cs.length = 6) (hv : VIs P w y cs) :
  FRow (fun _ => P) w (f ++ [(nm, y)]) (xs ++ (.string (strOf nm) :: cs)) := by
 refine ⟨by simp [hr.1, hc]; omega, fun j hj => ?_⟩
 rw [List.length_append, List.length_singleton] at hj
 rcases Nat.lt_or_ge j f.length with h | h
 ·rw [List.getElem_append_left h]
  obtain ⟨h1, cs', h2, h3⟩ := hr.2 j h
  refine ⟨h1, cs', ?_, h3⟩
  rw [← h2]
  refine piece_ext fun t ht => ?_
  rw [List.getElem?_append_left (by have := hr.1; omega)]
 ·obtain rfl : j = f.length := by omega
  rw [List.getElem_append_right (Nat.le_refl _)]
  simp only [Nat.sub_self, List.getElem_cons_zero]
  refine ⟨hn, cs, piece_is (by simp [hc]) (fun t ht => ?_), hv⟩
  rw [List.getElem?_append_right (by have := hr.1; omega), hr.1]
  congr 1
  omega
end
end Go.Proofs.YtembpajlllnncaaGreatDoor
namespace Go.Proofs.YtembpajlllnncaaGreatDoor
open Go.RowKit

theorem okV_list {d : Nat} {n : Int} {s b : Bs} {f : List (Bs × Val)} {l : List Val} : okV d (.mk 7 n s b f l) = (bareB (.mk 7 n s b f l) false false false false true && (decide (d + 1 ≤ 32) && okLs (d + 1) l)) ∧ encV (.mk 7 n s b f l) = wrapDoc (encLs 0 l) := by
 rw [okV, encV]; simp [Val.plain, bareB, codeOf]
theorem named_snoc : ∀ (i : Nat) (a : List Val) (x : Val), named i (a ++ [x]) = named i a ++ [(itoa (i + a.length), x)]
 | i, [], x => by simp [named]
 | i, v :: r, x => by
  rw [List.cons_append, named, named, named_snoc (i + 1) r x, List.cons_append, List.length_cons, show i + 1 + r.length = i + (r.length + 1) by omega]
theorem weightLs_getP : ∀ (l : List Val) (i : Nat) (h : i < l.length), weightV l[i] ≤ weightLs l
 | v :: r, 0, _ => by simp [weightLs]
 | v :: r, i + 1, h => by
  have := weightLs_getP r i (by simpa using h)
  simp [weightLs]; omega
set_option maxRecDepth 100000 in
set_option maxHeartbeats 8000000 in
theorem own_listQ {d : Nat} {k n : Int} {s b : Bs} {f : List (Bs × Val)} {l : List Val} (hk : k = 7) (hq : d + 1 ≤ 32 → ∀ j (h : j < l.length), OwnQC l[j] (d + 1)) (hl3 : l.length ≤ 3001) (hd : d ≤ 40) : OwnQC (.mk k n s b f l) d := by
 intro P cs w hx
 obtain ⟨bv, fa, fc, la, lc, hcs, hb, ⟨hfc, hlc, hfz, hlz⟩, ⟨hk1, hk2, hn1, hn2⟩, -, hf, hl⟩ := hx.cells
 obtain ⟨ba, bc, rfl⟩ := hb.shape
 simp only [Val.kind, Val.num, Val.s, Val.b, Val.f, Val.l] at *
 obtain ⟨S0, hS0⟩ : ∃ k, k = strOf s := ⟨_, rfl⟩
 obtain ⟨bn, hbn⟩ : ∃ k, k = b.length := ⟨_, rfl⟩
 obtain ⟨ln, hln⟩ : ∃ k, k = l.length := ⟨_, rfl⟩
 obtain ⟨fn, hfn⟩ : ∃ k, k = f.length := ⟨_, rfl⟩
 rw [← hS0, ← hbn, ← hln, ← hfn] at hcs
 rw [← hbn] at hb
 subst hcs
 obtain ⟨W1, hW1⟩ : ∃ W1, W1 = w.alloc (.cells #[.int .i64 k, .int .i64 n, .string S0, .slice ba bn bc, .slice fa fn fc, .slice la ln lc] 35) := ⟨_, rfl⟩
 have hst1 : Step [] id id w W1 := by rw [hW1]; exact Step.alloc _
 have hV : W1.heap[w.heap.size]? = some (.cells #[.int .i64 k, .int .i64 n, .string S0, .slice ba bn bc, .slice fa fn fc, .slice la ln lc] 35 (0, 0)) := by rw [hW1]; exact heap_alloc_new _ _
 have hx1 := hx.keep (P2 := P) (w' := W1) (fun _ h => h) (fun k hP hk => (hst1.keep k hk (by simp)).2)
 obtain ⟨v0, v1, v2, v3, v4, v5⟩ := cells_of6P hV
 have hVl : w.heap.size < W1.heap.size := lt_of_block hV
 have hVH := Lib.hid hV
 have hx1H := Lib.hid hx1
 have hW1H := Lib.hid hW1
 have hst1H := Lib.hid hst1
 have hS0H := Lib.hid hS0
 have hbnH := Lib.hid hbn
 have hlnH := Lib.hid hln
 have hfnH := Lib.hid hfn
 have hbH := Lib.hid hb
 have hfH := Lib.hid hf
 have hlH := Lib.hid hl
 clear hx hb hf hl hS0 hbn hln hfn hst1 hV hx1 hW1 hfc hlc hfz hlz hk1 hk2
 subst hk
 obtain ⟨he, hen⟩ := okV_list (d := d) (n := n) (s := s) (b := b) (f := f) (l := l)
 have hbc := Lib.hid (ref_bare_l hx1H.out)
 have hln3 : ln ≤ 3001 := by rw [hlnH.out]; exact hl3
 have heH := Lib.hid he
 have henH := Lib.hid hen
 have hqH := Lib.hid hq
 have hlbH := Lib.hid (LIs.below l la 0 hlH.out)
 clear he hen hq hl3
 obtain ⟨r, hr⟩ : ∃ r, r = bareB (.mk 7 n s b f l) false false false false true := ⟨_, rfl⟩
 have hrH := Lib.hid hr
 clear hr
 go_enter Tryz.func43, Tryz.ntmps43
 go_wp2_with fail
 rw [← hW1H.out]
 refine hbc.out.mono ?_
 rintro e w2 ⟨rfl, hs2⟩
 rw [← hrH.out]
 have hV2 := hs2.at hVH.out (by simp)
 obtain ⟨v0, v1, v2, v3, v4, v5⟩ := cells_of6P hV2
 have hVl2 : w.heap.size < w2.heap.size := World.block_lt_of_cell? w2 _ v0
 have hs2H := Lib.hid hs2
 have hV2H := Lib.hid hV2
 clear hs2 hV2
 cases r
 ·have hokH := Lib.hid (show okQ d (.mk 7 n s b f l) = false by unfold okQ; rw [heH.out, ← hrH.out]; rfl)
  go_wp2_with fail
  go_ret2
  exact ⟨none, 0, 0, by rw [hokH.out]; rfl, fun h => absurd h (by rw [hokH.out]; simp), hst1H.out.tail hs2H.out⟩
 ·by_cases h32 : d + 1 ≤ 32
  rotate_left
  ·have hdi : (32 : Int) < (d : Int) + 1 := by omega
   have hokH := Lib.hid (show okQ d (.mk 7 n s b f l) = false by unfold okQ; rw [heH.out, ← hrH.out, decide_eq_false h32]; rfl)
   go_wp2_with fail
   go_ret2
   exact ⟨none, 0, 0, by rw [hokH.out]; rfl, fun h => absurd h (by rw [hokH.out]; simp), hst1H.out.tail hs2H.out⟩
  have hdi : ¬ (32 : Int) < (d : Int) + 1 := by omega
  have hlni : ¬ (65536 : Int) < (ln : Int) := by omega
  have h2w := hst1H.out.tail hs2H.out
  have h2wH := Lib.hid h2w
  clear h2w
  go_wp2_with fail
  clear v0 v1 v2 v3 v4 v5
  go_loopw [6, 7] (fun v i wr => ∃ (j : Nat) (va : Option Addr) (vc : Nat) (xs : List Value), i = .int .i64 j ∧ j ≤ ln ∧ v = .slice va j vc ∧ wr.ownsRow 0 38 7 (.slice va j vc) j xs ∧ FRow (fun _ k => P k ∧ k < w.heap.size) wr (named 0 (l.take j)) xs ∧ (∀ k, (Value.slice va j vc).ownBlock = some k → w2.heap.size ≤ k) ∧ Step [] id id w2 wr) (fun _ i _ => ln - (intOf i).toNat)
  case atStart => exact ⟨0, none, 0, [], rfl, Nat.zero_le _, rfl, World.ownsRow_nil _ _ _ _, ⟨by simp [named], fun i hi => by simp [named] at hi⟩, fun k hk => (by cases hk), Step.refl _ _ _⟩
  case round =>
   obtain ⟨j, va, vc, xs, rfl, hj, rfl, hown, hrow, hnew, hst⟩ := hrel
   have hVr := hst.at hV2H.out (by simp)
   have v5 := cell_blk hVr (i := 5) rfl
   have hVlr := lt_of_block hVr
   by_cases hjl : j < ln
   ·have hjl1 : (j : Int) < (ln : Int) := by omega
    have hj0 : (0 : Int) ≤ (j : Int) := by omega
    have hjL : j < l.length := by rw [← hlnH.out]; exact hjl
    obtain ⟨lb, lo, es, hae, hPb, hrng, hxj⟩ := (LIs.keep (P2 := fun k => P k ∧ k < w.heap.size) (fun _ h => h) (fun k hP hk => ((h2wH.out.tail hst).keep k hk (by simp)).2) l la 0 hlbH.out).get hjL
    subst hae
    obtain ⟨s1, ba2, bn2, bc2, fa2, fn2, fc2, la2, ln2, lc2, hes, -⟩ := hxj.six
    obtain ⟨n1, hn1'⟩ : ∃ k, k = l[j].num := ⟨_, rfl⟩
    obtain ⟨k1, hk1'⟩ : ∃ k, k = l[j].kind := ⟨_, rfl⟩
    rw [← hk1', ← hn1'] at hes
    rw [hes, Nat.zero_add] at hrng
    subst hes
    have q0 := hrng 0 _ rfl
    have q1 := hrng 1 _ rfl
    have q2 := hrng 2 _ rfl
    have q3 := hrng 3 _ rfl
    have q4 := hrng 4 _ rfl
    have q5 := hrng 5 _ rfl
    rw [Nat.add_zero] at q0
    have hlbl := World.block_lt_of_cell? wr _ q0
    have hlbw : lb < w.heap.size := hPb.2
    have hwrap : IntKind.i64.wrap ((j : Int) + 1) = (j : Int) + 1 := IntWalk.i64_in _ (by omega)
    have htk : named 0 (l.take (j + 1)) = named 0 (l.take j) ++ [(itoa j, l[j])] := by
     rw [List.take_succ_eq_append_getElem hjL, named_snoc, List.length_take, Nat.min_eq_left (by omega), Nat.zero_add]
    have htkH := Lib.hid htk
    have hownH := Lib.hid hown
    have hrowH := Lib.hid hrow
    have hnewH := Lib.hid hnew
    have hstH := Lib.hid hst
    have hxjH := Lib.hid hxj
    have hVrH := Lib.hid hVr
    clear hown hrow hnew hst hxj hVr htk hrng hn1' hk1' hPb
    go_wp2_with fail
    refine wp_region_held_drew (S := fun w' => w'.cell? ⟨w.heap.size, 5, none⟩ = some (.slice (some ⟨lb, lo, none⟩) ln lc) ∧ w'.cell? ⟨lb, lo + j * 6, none⟩ = some (.int .i64 k1) ∧ w'.cell? ⟨lb, lo + j * 6 + 1, none⟩ = some (.int .i64 n1) ∧ w'.cell? ⟨lb, lo + j * 6 + 2, none⟩ = some (.string s1) ∧ w'.cell? ⟨lb, lo + j * 6 + 3, none⟩ = some (.slice ba2 bn2 bc2) ∧ w'.cell? ⟨lb, lo + j * 6 + 4, none⟩ = some (.slice fa2 fn2 fc2) ∧ w'.cell? ⟨lb, lo + j * 6 + 5, none⟩ = some (.slice la2 ln2 lc2)) (by kernel_rfl) ⟨v5, q0, q1, q2, q3, q4, q5⟩ (fun hHeld => ?_)
    have hS : ∀ W, Step [] id id wr W → W.cell? ⟨w.heap.size, 5, none⟩ = some (.slice (some ⟨lb, lo, none⟩) ln lc) ∧ W.cell? ⟨lb, lo + j * 6, none⟩ = some (.int .i64 k1) ∧ W.cell? ⟨lb, lo + j * 6 + 1, none⟩ = some (.int .i64 n1) ∧ W.cell? ⟨lb, lo + j * 6 + 2, none⟩ = some (.string s1) ∧ W.cell? ⟨lb, lo + j * 6 + 3, none⟩ = some (.slice ba2 bn2 bc2) ∧ W.cell? ⟨lb, lo + j * 6 + 4, none⟩ = some (.slice fa2 fn2 fc2) ∧ W.cell? ⟨lb, lo + j * 6 + 5, none⟩ = some (.slice la2 ln2 lc2) := fun W hW => by
     have hk : ∀ (p : Addr) v, wr.cell? p = some v → W.cell? p = some v := fun p v hv => (World.cell?_of_block (a := p) ((hW.keep p.block (World.block_lt_of_cell? wr p hv) (by simp)).2)).trans hv
     exact ⟨hk _ _ v5, hk _ _ q0, hk _ _ q1, hk _ _ q2, hk _ _ q3, hk _ _ q4, hk _ _ q5⟩
    have hSH := Lib.hid hS
    clear hS
    refine tkH 0 ?_ rfl (by kernel_rfl) (fun _ _ _ h => h) ?_ hHeld ?_
    rotate_left
    ·intro w' hSw; (try dsimp only at hSw); go_simp
     all_goals (with_reducible rfl)
    simp only [zP, zO, zA, zB, zC, zD, zE, zF]
    refine tkH 1 ?_ rfl (by kernel_rfl) (fun _ _ _ h => h) ?_ hHeld ?_
    rotate_left
    ·intro w' hSw; (try dsimp only at hSw); go_simp
     all_goals (with_reducible rfl)
    simp only [zP, zO, zA, zB, zC, zD, zE, zF]
    refine tkH 3 ?_ rfl (by kernel_rfl) (fun _ _ _ h => h) ?_ hHeld ?_
    rotate_left
    ·intro w' hSw; (try dsimp only at hSw); go_simp
     all_goals (with_reducible rfl)
    simp only [zP, zO, zA, zB, zC, zD, zE, zF]
    refine tkH 4 ?_ rfl (by kernel_rfl) (fun _ _ _ h => h) ?_ hHeld ?_
    rotate_left
    ·intro w' hSw; (try dsimp only at hSw); go_simp
     all_goals (with_reducible rfl)
    simp only [zP, zO, zA, zB, zC, zD, zE, zF]
    refine tkH 5 ?_ rfl (by kernel_rfl) (fun _ _ _ h => h) ?_ hHeld ?_
    rotate_left
    ·intro w' hSw; (try dsimp only at hSw); go_simp
     all_goals (with_reducible rfl)
    simp only [zP, zO, zA, zB, zC, zD, zE, zF]
    refine tkH 6 ?_ rfl (by kernel_rfl) (fun _ _ _ h => h) ?_ hHeld ?_
    rotate_left
    ·intro w' hSw; (try dsimp only at hSw); go_simp
     all_goals (with_reducible rfl)
    simp only [zP, zO, zA, zB, zC, zD, zE, zF]
    refine tkH 7 ?_ rfl (by kernel_rfl) (fun _ _ _ h => h) ?_ hHeld ?_
    rotate_left
    ·intro w' hSw; (try dsimp only at hSw); go_simp
     all_goals (with_reducible rfl)
    simp only [zP, zO, zA, zB, zC, zD, zE, zF]
    refine wpAnyH_ready (rs := [2]) (by kernel_rfl) (by simp) ?_
    refine AllReadyH.cons (o := _) rfl (fun K hK => ?_) AllReadyH.nil
    go_simp
    refine (ref_digits j wr.drew (by omega)).mono ?_
    rintro e w4 ⟨rfl, hs4⟩
    obtain ⟨D, hD⟩ : ∃ D, D = strOf (itoa j) := ⟨_, rfl⟩
    rw [← hD]
    have hs4r : Step [] id id wr w4 := Step.drew.tail hs4
    have hs4H := Lib.hid hs4r
    have hDH := Lib.hid hD
    clear hs4 hs4r hD
    go_wp2_with fail
    refine hK.out _ _ ?_ (fun hHeld => ?_)
    ·exact hSH.out _ hs4H.out
    clear hK K
    refine tkH 8 ?_ rfl (by kernel_rfl) (fun _ _ _ h => h) ?_ hHeld ?_
    rotate_left
    ·intro w' hSw; (try dsimp only at hSw); go_simp
     all_goals (with_reducible rfl)
    simp only [zP, zO, zA, zB, zC, zD, zE, zF]
    refine wpAnyH_ready (rs := [9]) (by kernel_rfl) (by simp) ?_
    refine AllReadyH.cons (o := _) rfl (fun K hK => ?_) AllReadyH.nil
    go_simp
    refine hK.out _ _ ?_ (fun hHeld => ?_)
    ·exact hSH.out _ (hs4H.out.tail (Step.alloc _))
    clear hK K
    obtain ⟨i0, hi, hz0, hz1, hz2⟩ := info_split info_field
    have hsrc : Src (w4.alloc (.cells #[.string D, .int .i64 k1, .int .i64 n1, .string s1, .slice ba2 bn2 bc2, .slice fa2 fn2 fc2, .slice la2 ln2 lc2] 38)) 7 (.slice (some ⟨w4.heap.size, 0, none⟩) 1 1) 1 [.string D, .int .i64 k1, .int .i64 n1, .string s1, .slice ba2 bn2 bc2, .slice fa2 fn2 fc2, .slice la2 ln2 lc2] := by
     refine ⟨rfl, .inr ⟨_, 1, rfl, fun t u ht => ?_⟩⟩
     rw [addr_add, Nat.zero_add]
     exact cell_blk (heap_alloc_new w4 _) (by rw [← ht]; simp)
    have hs5 : Step [] id id wr (w4.alloc (.cells #[.string D, .int .i64 k1, .int .i64 n1, .string s1, .slice ba2 bn2 bc2, .slice fa2 fn2 fc2, .slice la2 ln2 lc2] 38)) := hs4H.out.tail (Step.alloc _)
    have hown5 := ownsRow_step hownH.out hs5 (fun k _ => by simp)
    refine wpAnyH_ready (rs := [10]) (by kernel_rfl) (by simp) ?_
    refine AllReadyH.cons (o := _) rfl (fun K hK => ?_) AllReadyH.nil
    refine wp_app (.tmp 147) (.tmp 156) 33 (by rfl) 38 i0 _ 7 120 Tryz.underlying33 hi hz0 hz1 hz2 rfl (by decide) (.slice va j vc) j xs (by rfl) hown5 (.slice (some ⟨w4.heap.size, 0, none⟩) 1 1) 1 [.string D, .int .i64 k1, .int .i64 n1, .string s1, .slice ba2 bn2 bc2, .slice fa2 fn2 fc2, .slice la2 ln2 lc2] (by rfl) hsrc (by intro u hu; rcases List.mem_cons.1 hu with rfl | hu; rfl; exact hxjH.out.ones u hu) (by omega) (by omega) ?_
    intro ad' c' w6 hown6 hgrow6 hnil6 hat6
    have hs6 : Step [] id id w2 w6 := (hstH.out.tail hs5).tailNew (.grown (T := (Value.slice va j vc).ownBlock.toList) hgrow6 (fun k hk => by simp [hk])) (fun r hr => .inr (hnewH.out r (by simpa using hr)))
    have hk6 : ∀ k, k < w2.heap.size → w6.heap[k]? = wr.heap[k]? := fun k hk => (hs6.keep k hk (by simp)).2.trans ((hstH.out.keep k hk (by simp)).2).symm
    have hS6 := hSH.out wr (Step.refl _ _ _)
    refine hK.out _ _ ?_ (fun hHeld => ?_)
    ·have hc6 : ∀ (p : Addr) v, p.block < w2.heap.size → wr.cell? p = some v → w6.cell? p = some v := fun p v hp hv => (World.cell?_of_block (a := p) (hk6 p.block hp)).trans hv
     exact ⟨hc6 _ _ hVl2 v5, hc6 _ _ (by show lb < _; omega) q0, hc6 _ _ (by show lb < _; omega) q1, hc6 _ _ (by show lb < _; omega) q2, hc6 _ _ (by show lb < _; omega) q3, hc6 _ _ (by show lb < _; omega) q4, hc6 _ _ (by show lb < _; omega) q5⟩
    clear hK K
    refine tkH 11 ?_ rfl (by kernel_rfl) (fun _ _ _ h => h) ?_ hHeld ?_
    rotate_left
    ·intro w' hSw; (try dsimp only at hSw); go_simp
     all_goals (with_reducible rfl)
    simp only [zP, zO, zA, zB, zC, zD, zE, zF]
    refine wpAnyH_done (by kernel_rfl) ?_ _
    have hs6H := Lib.hid hs6
    have hk6H := Lib.hid hk6
    have hown6H := Lib.hid hown6
    have hat6H := Lib.hid hat6
    have hs5H := Lib.hid hs5
    clear hs6 hk6 hown6 hat6 hs5 hown5 hsrc hi hz0 hz1 hz2 hgrow6 hnil6 hS6 v5 q0 q1 q2 q3 q4 q5 hHeld
    go_wp2_with fail
    go_roundw
    case rel =>
     refine ⟨j + 1, ad', c', _, by go_num, by omega, rfl, hown6H.out, ?_, ?_, hs6H.out⟩
     ·rw [htkH.out]
      have h := (hrowH.out.keep (P2 := fun _ k => P k ∧ k < w.heap.size) (w' := w6) (fun _ _ h => h) (fun i k hP hk => hk6H.out k (by omega))).snoc (nm := itoa j) (y := l[j]) (by have := itoa_length 9 j (by omega); omega) rfl (hxjH.out.keep (fun _ h => h) (fun k hP hk => hk6H.out k (by omega)))
      rw [← hDH.out] at h
      exact h
     ·intro k hk
      rcases hat6H.out with h | h
      ·exact hnewH.out k (by rw [← h]; exact hk)
      ·rw [h] at hk; cases hk
       have := hstH.out.size; have := hs4H.out.size
       rw [alloc_size]; omega
    case measure => simp [intOf]; omega
   ·have hjl1 : ¬ (j : Int) < (ln : Int) := by omega
    obtain rfl : j = ln := by omega
    have htk : l.take j = l := List.take_of_length_le (by rw [← hlnH.out]; exact Nat.le_refl _)
    rw [htk] at hrow
    have hnl : (named 0 l).length = j := by rw [named_length, hlnH.out]
    have hfis := (hrow.is (Q := fun _ => True) (va := va) (vc := vc) (by rw [hnl]; exact hown) (fun _ _ _ => trivial) (fun _ _ => trivial)).1
    have hl0 : ∀ i, i < (named 0 l).length → i < l.length := fun i hi => by rw [named_length] at hi; exact hi
    have hc := Lib.hid (fields_full (P := fun _ => True) (w := wr) (f := named 0 l) (fa := va) (fn := j) (fc := vc) (d := d + 1)
     (fun i hi => by rw [named_get 0 l i (hl0 i hi)]; exact hqH.out h32 i (hl0 i hi)) (by omega)
     (fun i hi => by
      have h2 := itoa_length 9 i (by have := hl0 i hi; have := hlnH.out; omega)
      rw [named_get 0 l i (hl0 i hi)]
      simp only [Nat.zero_add]
      omega) (by omega) hnl.symm hfis)
    have hstH := Lib.hid hst
    clear htk hrow hown hnew hst hnl hfis hl0 hVr
    go_wp2_with fail
    refine hc.out.mono ?_
    rintro e w3 ⟨xa, xn, xc, rfl, hrow, hs3⟩
    have hrowH := Lib.hid hrow
    have hs3H := Lib.hid hs3
    clear hrow hs3 v5
    go_wp2_with fail
    go_ret2
    have ho : okQ d (.mk 7 n s b f l) = okFq (d + 1) (named 0 l) := by
     unfold okQ okFq
     rw [heH.out, ← hrH.out, decide_eq_true h32, okFs_named (d + 1) l 0 [] (fun x hx => by simp at hx) (by have := hlnH.out; omega), henH.out, wrapDoc_length, encFs_named]; rfl
    refine ⟨xa, xn, xc, by rw [ho]; rfl, fun h => ?_, (h2wH.out.tail hstH.out).tail hs3H.out⟩
    rw [ho] at h
    obtain ⟨h1, h2⟩ := hrowH.out h
    rw [encFs_named] at h1
    rw [henH.out]
    exact ⟨h1.len, row_bin h1 (fun k hk => .inr (by have := h2 k hk; have := h2wH.out.size; have := hstH.out.size; omega))⟩
theorem own_list (N : Nat) (ih : OwnC N) {P : Nat → Prop} {w : World} {d : Nat} {k n : Int} {s b : Bs} {f : List (Bs × Val)} {l : List Val} {cs : List Value} (hk : k = 7) (hx : VIs P w (.mk k n s b f l) cs) (hls : ∀ j (h : j < l.length), SizeOf.sizeOf l[j] < N) (hw : weightLs l ≤ 3001) (hwx : weightV (.mk k n s b f l) ≤ 3001) (hd : d ≤ 40) :
  Calls Tryz.prog 43 #[.agg cs.toArray, .int .i64 ((d : Int) + 1)] w (OwnP P (.mk k n s b f l) d w) :=
 (own_listQ hk (fun h32 j h => ih.q (hls j h) (by have := weightLs_getP l j h; omega) (by omega)) (by have := weightLs_len l; omega) hd P cs w hx).mono fun _ _ h => okQ_to hwx h
end Go.Proofs.YtembpajlllnncaaGreatDoor
namespace Go.Proofs.YtembpajlllnncaaGreatDoor
open Go.RowKit

/-- A new row, written on. -/
structure NewI (W1 W : World) (v : Value) (L : Bs) : Prop where
 row : Row W v L
 own : ∀ k, v.ownBlock = some k → W1.heap.size ≤ k
 step : Step [] id id W1 W
section
variable {W1 W W' : World} {v v' : Value} {L L' : Bs}
theorem NewI.on (h : NewI W1 W v L) (hs : Step [] id id W W') : NewI W1 W' v L := ⟨ownsRow_step h.row hs (fun k _ => by simp), h.own, h.step.tail hs⟩
theorem NewI.grew (h : NewI W1 W v L) (hr : Row W' v' L') (hg : Grew W v W' v') : NewI W1 W' v' L' :=
 ⟨hr, fun k hk => by
  rcases hg.own k hk with e | e
  ·exact h.own k e
  ·exact Nat.le_trans h.step.size e, h.step.tailNew (.grown (T := v.ownBlock.toList) hg.grown (fun k hk => by simp [hk])) (fun r hr => .inr (h.own r (by simpa using hr)))⟩
theorem NewI.num {l : Bs} (h : Step [] id id W1 W) (hr : Row W' v l) (hs : Step [] id id W W') (hn : ∀ k, v.ownBlock = some k → W.heap.size ≤ k) : NewI W1 W' v l := ⟨hr, fun k hk => Nat.le_trans h.size (hn k hk), h.tail hs⟩
theorem OneB.with {Z : Nat} {c : UInt8} (h : OneB W v Z c) (hs : Step [] id id W W') (hn : ∀ k, v'.ownBlock = some k → W.heap.size ≤ k) : OneB W' v' Z c :=
 ⟨hs.at h.blk (by simp), fun e => by have := hn Z e; have := lt_of_block h.blk; omega⟩
end
theorem okV_text {d : Nat} {n : Int} {s b : Bs} {f : List (Bs × Val)} {l : List Val} : okV d (.mk 5 n s b f l) = (bareB (.mk 5 n s b f l) false true false false false && utf8 s) ∧ encV (.mk 5 n s b f l) = layI 4 (s.length + 1 : Nat) ++ (s ++ [0]) := by
 rw [okV, encV]; simp [Val.plain, bareB, codeOf]
theorem okV_bytes {d : Nat} {n : Int} {s b : Bs} {f : List (Bs × Val)} {l : List Val} : okV d (.mk 8 n s b f l) = bareB (.mk 8 n s b f l) false false true false false ∧ encV (.mk 8 n s b f l) = layI 4 b.length ++ (0 :: b) := by
 rw [okV, encV]; simp [Val.plain, bareB, codeOf]
set_option maxRecDepth 100000 in
set_option maxHeartbeats 8000000 in
theorem own_bytes {P : Nat → Prop} {w : World} {d : Nat} {k n : Int} {s b : Bs} {f : List (Bs × Val)} {l : List Val} {cs : List Value} (hk : k = 8) (hx : VIs P w (.mk k n s b f l) cs) (hw : b.length ≤ 3001) :
  Calls Tryz.prog 43 #[.agg cs.toArray, .int .i64 ((d : Int) + 1)] w (OwnP P (.mk k n s b f l) d w) := by
 obtain ⟨bv, fa, fc, la, lc, hcs, hb, ⟨hfc, hlc, hfz, hlz⟩, ⟨hk1, hk2, hn1, hn2⟩, -, hf, hl⟩ := hx.cells
 obtain ⟨ba, bc, rfl⟩ := hb.shape
 simp only [Val.kind, Val.num, Val.s, Val.b, Val.f, Val.l] at *
 obtain ⟨S0, hS0⟩ : ∃ k, k = strOf s := ⟨_, rfl⟩
 obtain ⟨bn, hbn⟩ : ∃ k, k = b.length := ⟨_, rfl⟩
 obtain ⟨ln, hln⟩ : ∃ k, k = l.length := ⟨_, rfl⟩
 obtain ⟨fn, hfn⟩ : ∃ k, k = f.length := ⟨_, rfl⟩
 rw [← hS0, ← hbn, ← hln, ← hfn] at hcs
 rw [← hbn] at hb
 subst hcs
 obtain ⟨W1, hW1⟩ : ∃ W1, W1 = w.alloc (.cells #[.int .i64 k, .int .i64 n, .string S0, .slice ba bn bc, .slice fa fn fc, .slice la ln lc] 35) := ⟨_, rfl⟩
 have hst1 : Step [] id id w W1 := by rw [hW1]; exact Step.alloc _
 have hV : W1.heap[w.heap.size]? = some (.cells #[.int .i64 k, .int .i64 n, .string S0, .slice ba bn bc, .slice fa fn fc, .slice la ln lc] 35 (0, 0)) := by rw [hW1]; exact heap_alloc_new _ _
 have hx1 := hx.keep (P2 := P) (w' := W1) (fun _ h => h) (fun k hP hk => (hst1.keep k hk (by simp)).2)
 obtain ⟨v0, v1, v2, v3, v4, v5⟩ := cells_of6P hV
 have hVl : w.heap.size < W1.heap.size := lt_of_block hV
 have hVH := Lib.hid hV
 have hx1H := Lib.hid hx1
 have hW1H := Lib.hid hW1
 have hst1H := Lib.hid hst1
 have hS0H := Lib.hid hS0
 have hbnH := Lib.hid hbn
 have hlnH := Lib.hid hln
 have hfnH := Lib.hid hfn
 have hbH := Lib.hid hb
 have hfH := Lib.hid hf
 have hlH := Lib.hid hl
 clear hx hb hf hl hS0 hbn hln hfn hst1 hV hx1 hW1 hfc hlc hfz hlz hk1 hk2
 subst hk
 obtain ⟨he, hen⟩ := okV_bytes (d := d) (n := n) (s := s) (b := b) (f := f) (l := l)
 have hbc := Lib.hid (fun (W : World) (hW : Step [] id id W1 W) => ref_bare_b (hx1H.out.keep (P2 := P) (w' := W) (fun _ h => h) (fun k hP hk => (hW.keep k hk (by simp)).2)))
 have hbW := fun (W : World) (hW : Step [] id id W1 W) => hbH.out.keep (P2 := P) (w' := W) (fun _ h => h) (fun k hP hk => ((hst1H.out.tail hW).keep k hk (by simp)).2)
 have heH := Lib.hid he
 have henH := Lib.hid hen
 have hbn3 : bn ≤ 3001 := by rw [hbnH.out]; exact hw
 have hbni : ¬ (65536 : Int) < (bn : Int) := by omega
 obtain ⟨M, hM⟩ : ∃ M : Int, M = (bn : Int) := ⟨_, rfl⟩
 have hMr : 0 ≤ M ∧ M ≤ 3002 := by omega
 have hMH := Lib.hid (show M = ((b.length : Nat) : Int) by rw [hM, hbnH.out])
 go_enter Tryz.func43, Tryz.ntmps43
 clear he hen
 have hMH2 := Lib.hid hM
 clear hM
 go_wp2_with fail
 rw [← hW1H.out]
 refine wp_region_held_drew (S := fun w' => w'.cell? ⟨w.heap.size, 0, none⟩ = some (.int .i64 8) ∧ w'.cell? ⟨w.heap.size, 1, none⟩ = some (.int .i64 n) ∧ w'.cell? ⟨w.heap.size, 2, none⟩ = some (.string S0) ∧ w'.cell? ⟨w.heap.size, 3, none⟩ = some (.slice ba bn bc) ∧ w'.cell? ⟨w.heap.size, 4, none⟩ = some (.slice fa fn fc) ∧ w'.cell? ⟨w.heap.size, 5, none⟩ = some (.slice la ln lc)) (by kernel_rfl) ⟨v0, v1, v2, v3, v4, v5⟩ (fun hHeld => ?_)
 have hW : Step [] id id W1 W1.drew := Step.drew
 refine tkH 0 ?_ rfl (by kernel_rfl) (fun _ _ _ h => h) ?_ hHeld ?_
 rotate_left
 ·intro w' hSw; (try dsimp only at hSw); go_simp
  all_goals (with_reducible rfl)
 simp only [zP, zO, zA, zB, zC, zD, zE, zF]
 refine tkH 1 ?_ rfl (by kernel_rfl) (fun _ _ _ h => h) ?_ hHeld ?_
 rotate_left
 ·intro w' hSw; (try dsimp only at hSw); go_simp
  all_goals (with_reducible rfl)
 simp only [zP, zO, zA, zB, zC, zD, zE, zF]
 refine tkH 2 ?_ rfl (by kernel_rfl) (fun _ _ _ h => h) ?_ hHeld ?_
 rotate_left
 ·intro w' hSw; (try dsimp only at hSw); go_simp
  all_goals (with_reducible rfl)
 simp only [zP, zO, zA, zB, zC, zD, zE, zF]
 refine tkH 6 ?_ rfl (by kernel_rfl) (fun _ _ _ h => h) ?_ hHeld ?_
 rotate_left
 ·intro w' hSw; (try dsimp only at hSw); go_simp
  all_goals (with_reducible rfl)
 simp only [zP, zO, zA, zB, zC, zD, zE, zF]
 refine tkH 7 ?_ rfl (by kernel_rfl) (fun _ _ _ h => h) ?_ hHeld ?_
 rotate_left
 ·intro w' hSw; (try dsimp only at hSw); go_simp
  all_goals (with_reducible rfl)
 simp only [zP, zO, zA, zB, zC, zD, zE, zF]
 refine tkH 9 ?_ rfl (by kernel_rfl) (fun _ _ _ h => h) ?_ hHeld ?_
 rotate_left
 ·intro w' hSw; (try dsimp only at hSw); go_simp
  all_goals (with_reducible rfl)
 simp only [zP, zO, zA, zB, zC, zD, zE, zF]
 rw [← hMH2.out]
 refine wpAnyH_ready (rs := [3, 4]) (by kernel_rfl) (by simp) ?_
 refine AllReadyH.cons (o := _) rfl (fun K hK => ?_) (AllReadyH.cons (o := _) rfl (fun K hK => ?_) AllReadyH.nil)
 ·go_simp
  refine (ref_num M 4 _ (by omega) ⟨by omega, by omega⟩).mono ?_
  rintro e w2 ⟨nv, rfl, hr2, hs2, hnew2⟩
  obtain ⟨na, nn, nc, rfl, hnn⟩ := hr2.shapeN
  have hI := NewI.num hW hr2 hs2 hnew2
  clear hnn
  go_wp2_with fail
  refine hK.out _ _ ?_ (fun hHeld => ?_)
  ·exact cells_of6P (hI.step.at hVH.out (by simp))
  clear hK K
  refine wpAnyH_ready (rs := [4]) (by kernel_rfl) (by simp) ?_
  refine AllReadyH.cons (o := _) rfl (fun K hK => ?_) AllReadyH.nil
  go_simp
  have hZ := OneB.new (z := 0) (c := 0) hI.row rfl
  have hI := hI.on (Step.alloc (.cells #[.int .u8 0] 5))
  refine hK.out _ _ ?_ (fun hHeld => ?_)
  ·exact cells_of6P (hI.step.at hVH.out (by simp))
  clear hK K
  refine wpAnyH_ready (rs := [5]) (by kernel_rfl) (by simp) ?_
  refine AllReadyH.cons (o := _) rfl (fun K hK => ?_) AllReadyH.nil
  refine wp_put_src (.tmp 90) (.tmp 91) (by rfl) (by rfl) hI.row [0] (by first | rfl | (rw [alloc_size]; rfl)) hZ.src (by simp only [List.length_append, List.length_cons, List.length_nil, layI_length]; omega) ?_
  intro ad5 N5 c5 W5 hr5 hg5
  have hI := hI.grew hr5 hg5
  refine hK.out _ _ ?_ (fun hHeld => ?_)
  ·exact cells_of6P (hI.step.at hVH.out (by simp))
  clear hK K
  refine wpAnyH_ready (rs := [8]) (by kernel_rfl) (by simp) ?_
  refine AllReadyH.cons (o := _) rfl (fun K hK => ?_) AllReadyH.nil
  refine wp_put_src (.tmp 92) (.tmp 94) (by rfl) (by rfl) hI.row b (by rfl) (bin_src (P := P) (hbW _ hI.step)) (by simp only [List.length_append, List.length_cons, List.length_nil, layI_length]; omega) ?_
  intro ad8 N8 c8 W8 hr8 hg8
  have hI := hI.grew hr8 hg8
  refine hK.out _ _ ?_ (fun hHeld => ?_)
  ·exact cells_of6P (hI.step.at hVH.out (by simp))
  clear hK K
  refine wpAnyH_ready (rs := [10]) (by kernel_rfl) (by simp) ?_
  refine AllReadyH.cons (o := _) rfl (fun K hK => ?_) AllReadyH.nil
  go_simp
  refine (hbc.out _ hI.step).mono ?_
  rintro e w9 ⟨rfl, hs9⟩
  have hI := hI.on hs9
  go_wp2_with fail
  refine hK.out _ _ ?_ (fun hHeld => ?_)
  ·exact cells_of6P (hI.step.at hVH.out (by simp))
  clear hK K
  refine tkH 11 ?_ rfl (by kernel_rfl) (fun _ _ _ h => h) ?_ hHeld ?_
  rotate_left
  ·intro w' hSw; (try dsimp only at hSw); go_simp
   all_goals (with_reducible rfl)
  simp only [zP, zO, zA, zB, zC, zD, zE, zF]
  refine tkH 12 ?_ rfl (by kernel_rfl) (fun _ _ _ h => h) ?_ hHeld ?_
  rotate_left
  ·intro w' hSw; (try dsimp only at hSw); go_simp
   all_goals (with_reducible rfl)
  simp only [zP, zO, zA, zB, zC, zD, zE, zF]
  refine wpAnyH_done (by kernel_rfl) ?_ _
  have hIH := Lib.hid hI
  clear hI v0 v1 v2 v3 v4 v5 hHeld
  go_wp2_with fail
  go_ret2
  refine ⟨ad8, N8, c8, by rw [heH.out]; rfl, fun _ => ?_, hst1H.out.tail hIH.out.step⟩
  have e : encV (.mk 8 n s b f l) = layI 4 M ++ [0] ++ b := by rw [henH.out, hMH.out]; simp
  rw [e]
  exact ⟨hIH.out.row.len, row_bin hIH.out.row (fun k hk => .inr (by have := hIH.out.own k hk; omega))⟩
 ·go_simp
  have hZ := OneB.new (W := W1.drew) (z := 0) (c := 0) (Row.nil _) rfl
  have hW := hW.tail (Step.alloc (.cells #[.int .u8 0] 5))
  refine hK.out _ _ ?_ (fun hHeld => ?_)
  ·exact cells_of6P (hW.at hVH.out (by simp))
  clear hK K
  refine wpAnyH_ready (rs := [3]) (by kernel_rfl) (by simp) ?_
  refine AllReadyH.cons (o := _) rfl (fun K hK => ?_) AllReadyH.nil
  go_simp
  refine (ref_num M 4 _ (by omega) ⟨by omega, by omega⟩).mono ?_
  rintro e w2 ⟨nv, rfl, hr2, hs2, hnew2⟩
  obtain ⟨na, nn, nc, rfl, hnn⟩ := hr2.shapeN
  have hI := NewI.num hW hr2 hs2 hnew2
  clear hnn
  go_wp2_with fail
  refine hK.out _ _ ?_ (fun hHeld => ?_)
  ·exact cells_of6P (hI.step.at hVH.out (by simp))
  clear hK K
  have hZ := hZ.with hs2 hnew2
  refine wpAnyH_ready (rs := [5]) (by kernel_rfl) (by simp) ?_
  refine AllReadyH.cons (o := _) rfl (fun K hK => ?_) AllReadyH.nil
  refine wp_put_src (.tmp 90) (.tmp 91) (by rfl) (by rfl) hI.row [0] (by first | rfl | (rw [alloc_size]; rfl)) hZ.src (by simp only [List.length_append, List.length_cons, List.length_nil, layI_length]; omega) ?_
  intro ad5 N5 c5 W5 hr5 hg5
  have hI := hI.grew hr5 hg5
  refine hK.out _ _ ?_ (fun hHeld => ?_)
  ·exact cells_of6P (hI.step.at hVH.out (by simp))
  clear hK K
  refine wpAnyH_ready (rs := [8]) (by kernel_rfl) (by simp) ?_
  refine AllReadyH.cons (o := _) rfl (fun K hK => ?_) AllReadyH.nil
  refine wp_put_src (.tmp 92) (.tmp 94) (by rfl) (by rfl) hI.row b (by rfl) (bin_src (P := P) (hbW _ hI.step)) (by simp only [List.length_append, List.length_cons, List.length_nil, layI_length]; omega) ?_
  intro ad8 N8 c8 W8 hr8 hg8
  have hI := hI.grew hr8 hg8
  refine hK.out _ _ ?_ (fun hHeld => ?_)
  ·exact cells_of6P (hI.step.at hVH.out (by simp))
  clear hK K
  refine wpAnyH_ready (rs := [10]) (by kernel_rfl) (by simp) ?_
  refine AllReadyH.cons (o := _) rfl (fun K hK => ?_) AllReadyH.nil
  go_simp
  refine (hbc.out _ hI.step).mono ?_
  rintro e w9 ⟨rfl, hs9⟩
  have hI := hI.on hs9
  go_wp2_with fail
  refine hK.out _ _ ?_ (fun hHeld => ?_)
  ·exact cells_of6P (hI.step.at hVH.out (by simp))
  clear hK K
  refine tkH 11 ?_ rfl (by kernel_rfl) (fun _ _ _ h => h) ?_ hHeld ?_
  rotate_left
  ·intro w' hSw; (try dsimp only at hSw); go_simp
   all_goals (with_reducible rfl)
  simp only [zP, zO, zA, zB, zC, zD, zE, zF]
  refine tkH 12 ?_ rfl (by kernel_rfl) (fun _ _ _ h => h) ?_ hHeld ?_
  rotate_left
  ·intro w' hSw; (try dsimp only at hSw); go_simp
   all_goals (with_reducible rfl)
  simp only [zP, zO, zA, zB, zC, zD, zE, zF]
  refine wpAnyH_done (by kernel_rfl) ?_ _
  have hIH := Lib.hid hI
  clear hI v0 v1 v2 v3 v4 v5 hHeld
  go_wp2_with fail
  go_ret2
  refine ⟨ad8, N8, c8, by rw [heH.out]; rfl, fun _ => ?_, hst1H.out.tail hIH.out.step⟩
  have e : encV (.mk 8 n s b f l) = layI 4 M ++ [0] ++ b := by rw [henH.out, hMH.out]; simp
  rw [e]
  exact ⟨hIH.out.row.len, row_bin hIH.out.row (fun k hk => .inr (by have := hIH.out.own k hk; omega))⟩
set_option maxRecDepth 100000 in
set_option maxHeartbeats 8000000 in
theorem own_text {P : Nat → Prop} {w : World} {d : Nat} {k n : Int} {s b : Bs} {f : List (Bs × Val)} {l : List Val} {cs : List Value} (hk : k = 5) (hx : VIs P w (.mk k n s b f l) cs) (hw : s.length ≤ 3001) :
  Calls Tryz.prog 43 #[.agg cs.toArray, .int .i64 ((d : Int) + 1)] w (OwnP P (.mk k n s b f l) d w) := by
 obtain ⟨bv, fa, fc, la, lc, hcs, hb, ⟨hfc, hlc, hfz, hlz⟩, ⟨hk1, hk2, hn1, hn2⟩, -, hf, hl⟩ := hx.cells
 obtain ⟨ba, bc, rfl⟩ := hb.shape
 simp only [Val.kind, Val.num, Val.s, Val.b, Val.f, Val.l] at *
 obtain ⟨S0, hS0⟩ : ∃ k, k = strOf s := ⟨_, rfl⟩
 obtain ⟨bn, hbn⟩ : ∃ k, k = b.length := ⟨_, rfl⟩
 obtain ⟨ln, hln⟩ : ∃ k, k = l.length := ⟨_, rfl⟩
 obtain ⟨fn, hfn⟩ : ∃ k, k = f.length := ⟨_, rfl⟩
 rw [← hS0, ← hbn, ← hln, ← hfn] at hcs
 rw [← hbn] at hb
 subst hcs
 obtain ⟨W1, hW1⟩ : ∃ W1, W1 = w.alloc (.cells #[.int .i64 k, .int .i64 n, .string S0, .slice ba bn bc, .slice fa fn fc, .slice la ln lc] 35) := ⟨_, rfl⟩
 have hst1 : Step [] id id w W1 := by rw [hW1]; exact Step.alloc _
 have hV : W1.heap[w.heap.size]? = some (.cells #[.int .i64 k, .int .i64 n, .string S0, .slice ba bn bc, .slice fa fn fc, .slice la ln lc] 35 (0, 0)) := by rw [hW1]; exact heap_alloc_new _ _
 have hx1 := hx.keep (P2 := P) (w' := W1) (fun _ h => h) (fun k hP hk => (hst1.keep k hk (by simp)).2)
 obtain ⟨v0, v1, v2, v3, v4, v5⟩ := cells_of6P hV
 have hVl : w.heap.size < W1.heap.size := lt_of_block hV
 have hVH := Lib.hid hV
 have hx1H := Lib.hid hx1
 have hW1H := Lib.hid hW1
 have hst1H := Lib.hid hst1
 have hS0H := Lib.hid hS0
 have hbnH := Lib.hid hbn
 have hlnH := Lib.hid hln
 have hfnH := Lib.hid hfn
 have hbH := Lib.hid hb
 have hfH := Lib.hid hf
 have hlH := Lib.hid hl
 clear hx hb hf hl hS0 hbn hln hfn hst1 hV hx1 hW1 hfc hlc hfz hlz hk1 hk2
 subst hk
 obtain ⟨he, hen⟩ := okV_text (d := d) (n := n) (s := s) (b := b) (f := f) (l := l)
 have hbc := Lib.hid (fun (W : World) (hW : Step [] id id W1 W) => ref_bare_s (hx1H.out.keep (P2 := P) (w' := W) (fun _ h => h) (fun k hP hk => (hW.keep k hk (by simp)).2)))
 have hut := fun W : World => ref_utf8 s W (by omega)
 rw [← hS0H.out] at hut
 have heH := Lib.hid he
 have henH := Lib.hid hen
 have hsz : S0.size = s.length := by rw [hS0H.out, strOf_size]
 have hs3 : S0.size ≤ 3001 := by omega
 have hs3i : ¬ (65536 : Int) < (S0.size : Int) := by omega
 have hs3n : ¬ 65536 < S0.size := by omega
 have hwr : IntKind.i64.wrap ((S0.size : Int) + 1) = (S0.size : Int) + 1 := IntWalk.i64_in _ (by omega)
 obtain ⟨M, hM⟩ : ∃ M : Int, M = (S0.size : Int) + 1 := ⟨_, rfl⟩
 have hMr : 0 ≤ M ∧ M ≤ 3002 := by omega
 have hMH := Lib.hid (show M = ((s.length + 1 : Nat) : Int) by rw [hM, hsz]; rfl)
 have hMH2 := Lib.hid hM
 obtain ⟨r, hr⟩ : ∃ r, r = bareB (.mk 5 n s b f l) false true false false false := ⟨_, rfl⟩
 have hrH := Lib.hid hr
 obtain ⟨u, hu⟩ : ∃ u, u = utf8 s := ⟨_, rfl⟩
 rw [← hu] at hut
 have huH := Lib.hid hu
 clear hM hr he hen hsz hu
 cases r
 ·have hokH := Lib.hid (show okV d (.mk 5 n s b f l) = false by rw [heH.out, ← hrH.out]; rfl)
  go_enter Tryz.func43, Tryz.ntmps43
  go_wp2_with fail
  rw [← hW1H.out]
  refine wp_region_held_drew (S := fun w' => w'.cell? ⟨w.heap.size, 0, none⟩ = some (.int .i64 5) ∧ w'.cell? ⟨w.heap.size, 1, none⟩ = some (.int .i64 n) ∧ w'.cell? ⟨w.heap.size, 2, none⟩ = some (.string S0) ∧ w'.cell? ⟨w.heap.size, 3, none⟩ = some (.slice ba bn bc) ∧ w'.cell? ⟨w.heap.size, 4, none⟩ = some (.slice fa fn fc) ∧ w'.cell? ⟨w.heap.size, 5, none⟩ = some (.slice la ln lc)) (by kernel_rfl) ⟨v0, v1, v2, v3, v4, v5⟩ (fun hHeld => ?_)
  have hW : Step [] id id W1 W1.drew := Step.drew
  refine tkH 0 ?_ rfl (by kernel_rfl) (fun _ _ _ h => h) ?_ hHeld ?_
  rotate_left
  ·intro w' hSw; (try dsimp only at hSw); go_simp
   all_goals (with_reducible rfl)
  simp only [zP, zO, zA, zB, zC, zD, zE, zF]
  refine tkH 1 ?_ rfl (by kernel_rfl) (fun _ _ _ h => h) ?_ hHeld ?_
  rotate_left
  ·intro w' hSw; (try dsimp only at hSw); go_simp
   all_goals (with_reducible rfl)
  simp only [zP, zO, zA, zB, zC, zD, zE, zF]
  refine tkH 2 ?_ rfl (by kernel_rfl) (fun _ _ _ h => h) ?_ hHeld ?_
  rotate_left
  ·intro w' hSw; (try dsimp only at hSw); go_simp
   all_goals (with_reducible rfl)
  simp only [zP, zO, zA, zB, zC, zD, zE, zF]
  refine tkH 3 ?_ rfl (by kernel_rfl) (fun _ _ _ h => h) ?_ hHeld ?_
  rotate_left
  ·intro w' hSw; (try dsimp only at hSw); go_simp
   all_goals (with_reducible rfl)
  simp only [zP, zO, zA, zB, zC, zD, zE, zF]
  refine tkH 5 ?_ rfl (by kernel_rfl) (fun _ _ _ h => h) ?_ hHeld ?_
  rotate_left
  ·intro w' hSw; (try dsimp only at hSw); go_simp
   all_goals (with_reducible rfl)
  simp only [zP, zO, zA, zB, zC, zD, zE, zF]
  refine tkH 6 ?_ rfl (by kernel_rfl) (fun _ _ _ h => h) ?_ hHeld ?_
  rotate_left
  ·intro w' hSw; (try dsimp only at hSw); go_simp
   all_goals (with_reducible rfl)
  simp only [zP, zO, zA, zB, zC, zD, zE, zF]
  refine tkH 10 ?_ rfl (by kernel_rfl) (fun _ _ _ h => h) ?_ hHeld ?_
  rotate_left
  ·intro w' hSw; (try dsimp only at hSw); go_simp
   all_goals (with_reducible rfl)
  simp only [zP, zO, zA, zB, zC, zD, zE, zF]
  rw [← hMH2.out]
  refine wpAnyH_ready (rs := [4, 8]) (by kernel_rfl) (by simp) ?_
  refine AllReadyH.cons (o := _) rfl (fun K hK => ?_) (AllReadyH.cons (o := _) rfl (fun K hK => ?_) AllReadyH.nil)
  ·go_simp
   refine (ref_num M 4 _ (by omega) ⟨by omega, by omega⟩).mono ?_
   rintro e w2 ⟨nv, rfl, hr2, hs2, hnew2⟩
   obtain ⟨na, nn, nc, rfl, hnn⟩ := hr2.shapeN
   have hI := NewI.num hW hr2 hs2 hnew2
   clear hnn
   go_wp2_with fail
   refine hK.out _ _ ?_ (fun hHeld => ?_)
   ·exact cells_of6P (hI.step.at hVH.out (by simp))
   clear hK K
   refine wpAnyH_ready (rs := [7, 8]) (by kernel_rfl) (by simp) ?_
   refine AllReadyH.cons (o := _) rfl (fun K hK => ?_) (AllReadyH.cons (o := _) rfl (fun K hK => ?_) AllReadyH.nil)
   ·refine wp_put_str (.tmp 68) (.tmp 70) (by rfl) (by rfl) hI.row s (by rw [← hS0H.out]; rfl) (by simp only [List.length_append, List.length_cons, List.length_nil, layI_length]; omega) ?_
    intro ad7 N7 c7 W7 hr7 hg7
    have hI := hI.grew hr7 hg7
    refine hK.out _ _ ?_ (fun hHeld => ?_)
    ·exact cells_of6P (hI.step.at hVH.out (by simp))
    clear hK K
    refine wpAnyH_ready (rs := [8]) (by kernel_rfl) (by simp) ?_
    refine AllReadyH.cons (o := _) rfl (fun K hK => ?_) AllReadyH.nil
    go_simp
    have hZ := OneB.new (z := 0) (c := 0) hI.row rfl
    have hI := hI.on (Step.alloc (.cells #[.int .u8 0] 5))
    refine hK.out _ _ ?_ (fun hHeld => ?_)
    ·exact cells_of6P (hI.step.at hVH.out (by simp))
    clear hK K
    refine wpAnyH_ready (rs := [9]) (by kernel_rfl) (by simp) ?_
    refine AllReadyH.cons (o := _) rfl (fun K hK => ?_) AllReadyH.nil
    refine wp_put_src (.tmp 71) (.tmp 72) (by rfl) (by rfl) hI.row [0] (by first | rfl | (rw [alloc_size]; rfl)) hZ.src (by simp only [List.length_append, List.length_cons, List.length_nil, layI_length]; omega) ?_
    intro ad9 N9 c9 W9 hr9 hg9
    have hI := hI.grew hr9 hg9
    refine hK.out _ _ ?_ (fun hHeld => ?_)
    ·exact cells_of6P (hI.step.at hVH.out (by simp))
    clear hK K
    refine wpAnyH_ready (rs := [11]) (by kernel_rfl) (by simp) ?_
    refine AllReadyH.cons (o := _) rfl (fun K hK => ?_) AllReadyH.nil
    go_simp
    refine (hbc.out _ hI.step).mono ?_
    rintro e w11 ⟨rfl, hs11⟩
    rw [← hrH.out]
    have hI := hI.on hs11
    go_wp2_with fail
    refine hK.out _ _ ?_ (fun hHeld => ?_)
    ·exact cells_of6P (hI.step.at hVH.out (by simp))
    clear hK K
    refine tkH 12 ?_ rfl (by kernel_rfl) (fun _ _ _ h => h) ?_ hHeld ?_
    rotate_left
    ·intro w' hSw; (try dsimp only at hSw); go_simp
     all_goals (with_reducible rfl)
    simp only [zP, zO, zA, zB, zC, zD, zE, zF]
    refine wpAnyH_take (i := 13) (v := undef) rfl (by kernel_rfl) (by kernel_rfl) (by kernel_rfl) (fun _ _ _ h => h) (Or.inr ⟨by kernel_rfl, rfl⟩) hHeld ?_
    simp only [zP, zO, zA, zB, zC, zD, zE, zF]
    refine wpAnyH_take (i := 14) (v := undef) rfl (by kernel_rfl) (by kernel_rfl) (by kernel_rfl) (fun _ _ _ h => h) (Or.inr ⟨by kernel_rfl, rfl⟩) hHeld ?_
    simp only [zP, zO, zA, zB, zC, zD, zE, zF]
    refine wpAnyH_take (i := 15) (v := undef) rfl (by kernel_rfl) (by kernel_rfl) (by kernel_rfl) (fun _ _ _ h => h) (Or.inr ⟨by kernel_rfl, rfl⟩) hHeld ?_
    simp only [zP, zO, zA, zB, zC, zD, zE, zF]
    refine tkH 16 ?_ rfl (by kernel_rfl) (fun _ _ _ h => h) ?_ hHeld ?_
    rotate_left
    ·intro w' hSw; (try dsimp only at hSw); go_simp
     all_goals (with_reducible rfl)
    simp only [zP, zO, zA, zB, zC, zD, zE, zF]
    refine tkH 17 ?_ rfl (by kernel_rfl) (fun _ _ _ h => h) ?_ hHeld ?_
    rotate_left
    ·intro w' hSw; (try dsimp only at hSw); go_simp
     all_goals (with_reducible rfl)
    simp only [zP, zO, zA, zB, zC, zD, zE, zF]
    refine tkH 18 ?_ rfl (by kernel_rfl) (fun _ _ _ h => h) ?_ hHeld ?_
    rotate_left
    ·intro w' hSw; (try dsimp only at hSw); go_simp
     all_goals (with_reducible rfl)
    simp only [zP, zO, zA, zB, zC, zD, zE, zF]
    refine wpAnyH_done (by kernel_rfl) ?_ _
    have hIH := Lib.hid hI
    clear hI v0 v1 v2 v3 v4 v5 hHeld
    go_wp2_with fail
    go_ret2
    refine ⟨ad9, N9, c9, by rw [hokH.out]; rfl, fun _ => ?_, hst1H.out.tail hIH.out.step⟩
    have e : encV (.mk 5 n s b f l) = layI 4 M ++ s ++ [0] := by rw [henH.out, hMH.out]; simp
    rw [e]
    exact ⟨hIH.out.row.len, row_bin hIH.out.row (fun k hk => .inr (by have := hIH.out.own k hk; omega))⟩
   ·go_simp
    have hZ := OneB.new (z := 0) (c := 0) hI.row rfl
    have hI := hI.on (Step.alloc (.cells #[.int .u8 0] 5))
    refine hK.out _ _ ?_ (fun hHeld => ?_)
    ·exact cells_of6P (hI.step.at hVH.out (by simp))
    clear hK K
    refine wpAnyH_ready (rs := [7]) (by kernel_rfl) (by simp) ?_
    refine AllReadyH.cons (o := _) rfl (fun K hK => ?_) AllReadyH.nil
    refine wp_put_str (.tmp 68) (.tmp 70) (by rfl) (by rfl) hI.row s (by rw [← hS0H.out]; rfl) (by simp only [List.length_append, List.length_cons, List.length_nil, layI_length]; omega) ?_
    intro ad7 N7 c7 W7 hr7 hg7
    have hI := hI.grew hr7 hg7
    refine hK.out _ _ ?_ (fun hHeld => ?_)
    ·exact cells_of6P (hI.step.at hVH.out (by simp))
    clear hK K
    have hZ := hZ.grew hg7
    refine wpAnyH_ready (rs := [9]) (by kernel_rfl) (by simp) ?_
    refine AllReadyH.cons (o := _) rfl (fun K hK => ?_) AllReadyH.nil
    refine wp_put_src (.tmp 71) (.tmp 72) (by rfl) (by rfl) hI.row [0] (by first | rfl | (rw [alloc_size]; rfl)) hZ.src (by simp only [List.length_append, List.length_cons, List.length_nil, layI_length]; omega) ?_
    intro ad9 N9 c9 W9 hr9 hg9
    have hI := hI.grew hr9 hg9
    refine hK.out _ _ ?_ (fun hHeld => ?_)
    ·exact cells_of6P (hI.step.at hVH.out (by simp))
    clear hK K
    refine wpAnyH_ready (rs := [11]) (by kernel_rfl) (by simp) ?_
    refine AllReadyH.cons (o := _) rfl (fun K hK => ?_) AllReadyH.nil
    go_simp
    refine (hbc.out _ hI.step).mono ?_
    rintro e w11 ⟨rfl, hs11⟩
    rw [← hrH.out]
    have hI := hI.on hs11
    go_wp2_with fail
    refine hK.out _ _ ?_ (fun hHeld => ?_)
    ·exact cells_of6P (hI.step.at hVH.out (by simp))
    clear hK K
    refine tkH 12 ?_ rfl (by kernel_rfl) (fun _ _ _ h => h) ?_ hHeld ?_
    rotate_left
    ·intro w' hSw; (try dsimp only at hSw); go_simp
     all_goals (with_reducible rfl)
    simp only [zP, zO, zA, zB, zC, zD, zE, zF]
    refine wpAnyH_take (i := 13) (v := undef) rfl (by kernel_rfl) (by kernel_rfl) (by kernel_rfl) (fun _ _ _ h => h) (Or.inr ⟨by kernel_rfl, rfl⟩) hHeld ?_
    simp only [zP, zO, zA, zB, zC, zD, zE, zF]
    refine wpAnyH_take (i := 14) (v := undef) rfl (by kernel_rfl) (by kernel_rfl) (by kernel_rfl) (fun _ _ _ h => h) (Or.inr ⟨by kernel_rfl, rfl⟩) hHeld ?_
    simp only [zP, zO, zA, zB, zC, zD, zE, zF]
    refine wpAnyH_take (i := 15) (v := undef) rfl (by kernel_rfl) (by kernel_rfl) (by kernel_rfl) (fun _ _ _ h => h) (Or.inr ⟨by kernel_rfl, rfl⟩) hHeld ?_
    simp only [zP, zO, zA, zB, zC, zD, zE, zF]
    refine tkH 16 ?_ rfl (by kernel_rfl) (fun _ _ _ h => h) ?_ hHeld ?_
    rotate_left
    ·intro w' hSw; (try dsimp only at hSw); go_simp
     all_goals (with_reducible rfl)
    simp only [zP, zO, zA, zB, zC, zD, zE, zF]
    refine tkH 17 ?_ rfl (by kernel_rfl) (fun _ _ _ h => h) ?_ hHeld ?_
    rotate_left
    ·intro w' hSw; (try dsimp only at hSw); go_simp
     all_goals (with_reducible rfl)
    simp only [zP, zO, zA, zB, zC, zD, zE, zF]
    refine tkH 18 ?_ rfl (by kernel_rfl) (fun _ _ _ h => h) ?_ hHeld ?_
    rotate_left
    ·intro w' hSw; (try dsimp only at hSw); go_simp
     all_goals (with_reducible rfl)
    simp only [zP, zO, zA, zB, zC, zD, zE, zF]
    refine wpAnyH_done (by kernel_rfl) ?_ _
    have hIH := Lib.hid hI
    clear hI v0 v1 v2 v3 v4 v5 hHeld
    go_wp2_with fail
    go_ret2
    refine ⟨ad9, N9, c9, by rw [hokH.out]; rfl, fun _ => ?_, hst1H.out.tail hIH.out.step⟩
    have e : encV (.mk 5 n s b f l) = layI 4 M ++ s ++ [0] := by rw [henH.out, hMH.out]; simp
    rw [e]
    exact ⟨hIH.out.row.len, row_bin hIH.out.row (fun k hk => .inr (by have := hIH.out.own k hk; omega))⟩
  ·go_simp
   have hZ := OneB.new (W := W1.drew) (z := 0) (c := 0) (Row.nil _) rfl
   have hW := hW.tail (Step.alloc (.cells #[.int .u8 0] 5))
   refine hK.out _ _ ?_ (fun hHeld => ?_)
   ·exact cells_of6P (hW.at hVH.out (by simp))
   clear hK K
   refine wpAnyH_ready (rs := [4]) (by kernel_rfl) (by simp) ?_
   refine AllReadyH.cons (o := _) rfl (fun K hK => ?_) AllReadyH.nil
   go_simp
   refine (ref_num M 4 _ (by omega) ⟨by omega, by omega⟩).mono ?_
   rintro e w2 ⟨nv, rfl, hr2, hs2, hnew2⟩
   obtain ⟨na, nn, nc, rfl, hnn⟩ := hr2.shapeN
   have hI := NewI.num hW hr2 hs2 hnew2
   clear hnn
   go_wp2_with fail
   refine hK.out _ _ ?_ (fun hHeld => ?_)
   ·exact cells_of6P (hI.step.at hVH.out (by simp))
   clear hK K
   have hZ := hZ.with hs2 hnew2
   refine wpAnyH_ready (rs := [7]) (by kernel_rfl) (by simp) ?_
   refine AllReadyH.cons (o := _) rfl (fun K hK => ?_) AllReadyH.nil
   refine wp_put_str (.tmp 68) (.tmp 70) (by rfl) (by rfl) hI.row s (by rw [← hS0H.out]; rfl) (by simp only [List.length_append, List.length_cons, List.length_nil, layI_length]; omega) ?_
   intro ad7 N7 c7 W7 hr7 hg7
   have hI := hI.grew hr7 hg7
   refine hK.out _ _ ?_ (fun hHeld => ?_)
   ·exact cells_of6P (hI.step.at hVH.out (by simp))
   clear hK K
   have hZ := hZ.grew hg7
   refine wpAnyH_ready (rs := [9]) (by kernel_rfl) (by simp) ?_
   refine AllReadyH.cons (o := _) rfl (fun K hK => ?_) AllReadyH.nil
   refine wp_put_src (.tmp 71) (.tmp 72) (by rfl) (by rfl) hI.row [0] (by first | rfl | (rw [alloc_size]; rfl)) hZ.src (by simp only [List.length_append, List.length_cons, List.length_nil, layI_length]; omega) ?_
   intro ad9 N9 c9 W9 hr9 hg9
   have hI := hI.grew hr9 hg9
   refine hK.out _ _ ?_ (fun hHeld => ?_)
   ·exact cells_of6P (hI.step.at hVH.out (by simp))
   clear hK K
   refine wpAnyH_ready (rs := [11]) (by kernel_rfl) (by simp) ?_
   refine AllReadyH.cons (o := _) rfl (fun K hK => ?_) AllReadyH.nil
   go_simp
   refine (hbc.out _ hI.step).mono ?_
   rintro e w11 ⟨rfl, hs11⟩
   rw [← hrH.out]
   have hI := hI.on hs11
   go_wp2_with fail
   refine hK.out _ _ ?_ (fun hHeld => ?_)
   ·exact cells_of6P (hI.step.at hVH.out (by simp))
   clear hK K
   refine tkH 12 ?_ rfl (by kernel_rfl) (fun _ _ _ h => h) ?_ hHeld ?_
   rotate_left
   ·intro w' hSw; (try dsimp only at hSw); go_simp
    all_goals (with_reducible rfl)
   simp only [zP, zO, zA, zB, zC, zD, zE, zF]
   refine wpAnyH_take (i := 13) (v := undef) rfl (by kernel_rfl) (by kernel_rfl) (by kernel_rfl) (fun _ _ _ h => h) (Or.inr ⟨by kernel_rfl, rfl⟩) hHeld ?_
   simp only [zP, zO, zA, zB, zC, zD, zE, zF]
   refine wpAnyH_take (i := 14) (v := undef) rfl (by kernel_rfl) (by kernel_rfl) (by kernel_rfl) (fun _ _ _ h => h) (Or.inr ⟨by kernel_rfl, rfl⟩) hHeld ?_
   simp only [zP, zO, zA, zB, zC, zD, zE, zF]
   refine wpAnyH_take (i := 15) (v := undef) rfl (by kernel_rfl) (by kernel_rfl) (by kernel_rfl) (fun _ _ _ h => h) (Or.inr ⟨by kernel_rfl, rfl⟩) hHeld ?_
   simp only [zP, zO, zA, zB, zC, zD, zE, zF]
   refine tkH 16 ?_ rfl (by kernel_rfl) (fun _ _ _ h => h) ?_ hHeld ?_
   rotate_left
   ·intro w' hSw; (try dsimp only at hSw); go_simp
    all_goals (with_reducible rfl)
   simp only [zP, zO, zA, zB, zC, zD, zE, zF]
   refine tkH 17 ?_ rfl (by kernel_rfl) (fun _ _ _ h => h) ?_ hHeld ?_
   rotate_left
   ·intro w' hSw; (try dsimp only at hSw); go_simp
    all_goals (with_reducible rfl)
   simp only [zP, zO, zA, zB, zC, zD, zE, zF]
   refine tkH 18 ?_ rfl (by kernel_rfl) (fun _ _ _ h => h) ?_ hHeld ?_
   rotate_left
   ·intro w' hSw; (try dsimp only at hSw); go_simp
    all_goals (with_reducible rfl)
   simp only [zP, zO, zA, zB, zC, zD, zE, zF]
   refine wpAnyH_done (by kernel_rfl) ?_ _
   have hIH := Lib.hid hI
   clear hI v0 v1 v2 v3 v4 v5 hHeld
   go_wp2_with fail
   go_ret2
   refine ⟨ad9, N9, c9, by rw [hokH.out]; rfl, fun _ => ?_, hst1H.out.tail hIH.out.step⟩
   have e : encV (.mk 5 n s b f l) = layI 4 M ++ s ++ [0] := by rw [henH.out, hMH.out]; simp
   rw [e]
   exact ⟨hIH.out.row.len, row_bin hIH.out.row (fun k hk => .inr (by have := hIH.out.own k hk; omega))⟩
 ·have hokH := Lib.hid (show okV d (.mk 5 n s b f l) = u by rw [heH.out, ← hrH.out, huH.out]; rfl)
  go_enter Tryz.func43, Tryz.ntmps43
  go_wp2_with fail
  rw [← hW1H.out]
  refine wp_region_held_drew (S := fun w' => w'.cell? ⟨w.heap.size, 0, none⟩ = some (.int .i64 5) ∧ w'.cell? ⟨w.heap.size, 1, none⟩ = some (.int .i64 n) ∧ w'.cell? ⟨w.heap.size, 2, none⟩ = some (.string S0) ∧ w'.cell? ⟨w.heap.size, 3, none⟩ = some (.slice ba bn bc) ∧ w'.cell? ⟨w.heap.size, 4, none⟩ = some (.slice fa fn fc) ∧ w'.cell? ⟨w.heap.size, 5, none⟩ = some (.slice la ln lc)) (by kernel_rfl) ⟨v0, v1, v2, v3, v4, v5⟩ (fun hHeld => ?_)
  have hW : Step [] id id W1 W1.drew := Step.drew
  refine tkH 0 ?_ rfl (by kernel_rfl) (fun _ _ _ h => h) ?_ hHeld ?_
  rotate_left
  ·intro w' hSw; (try dsimp only at hSw); go_simp
   all_goals (with_reducible rfl)
  simp only [zP, zO, zA, zB, zC, zD, zE, zF]
  refine tkH 1 ?_ rfl (by kernel_rfl) (fun _ _ _ h => h) ?_ hHeld ?_
  rotate_left
  ·intro w' hSw; (try dsimp only at hSw); go_simp
   all_goals (with_reducible rfl)
  simp only [zP, zO, zA, zB, zC, zD, zE, zF]
  refine tkH 2 ?_ rfl (by kernel_rfl) (fun _ _ _ h => h) ?_ hHeld ?_
  rotate_left
  ·intro w' hSw; (try dsimp only at hSw); go_simp
   all_goals (with_reducible rfl)
  simp only [zP, zO, zA, zB, zC, zD, zE, zF]
  refine tkH 3 ?_ rfl (by kernel_rfl) (fun _ _ _ h => h) ?_ hHeld ?_
  rotate_left
  ·intro w' hSw; (try dsimp only at hSw); go_simp
   all_goals (with_reducible rfl)
  simp only [zP, zO, zA, zB, zC, zD, zE, zF]
  refine tkH 5 ?_ rfl (by kernel_rfl) (fun _ _ _ h => h) ?_ hHeld ?_
  rotate_left
  ·intro w' hSw; (try dsimp only at hSw); go_simp
   all_goals (with_reducible rfl)
  simp only [zP, zO, zA, zB, zC, zD, zE, zF]
  refine tkH 6 ?_ rfl (by kernel_rfl) (fun _ _ _ h => h) ?_ hHeld ?_
  rotate_left
  ·intro w' hSw; (try dsimp only at hSw); go_simp
   all_goals (with_reducible rfl)
  simp only [zP, zO, zA, zB, zC, zD, zE, zF]
  refine tkH 10 ?_ rfl (by kernel_rfl) (fun _ _ _ h => h) ?_ hHeld ?_
  rotate_left
  ·intro w' hSw; (try dsimp only at hSw); go_simp
   all_goals (with_reducible rfl)
  simp only [zP, zO, zA, zB, zC, zD, zE, zF]
  rw [← hMH2.out]
  refine wpAnyH_ready (rs := [4, 8]) (by kernel_rfl) (by simp) ?_
  refine AllReadyH.cons (o := _) rfl (fun K hK => ?_) (AllReadyH.cons (o := _) rfl (fun K hK => ?_) AllReadyH.nil)
  ·go_simp
   refine (ref_num M 4 _ (by omega) ⟨by omega, by omega⟩).mono ?_
   rintro e w2 ⟨nv, rfl, hr2, hs2, hnew2⟩
   obtain ⟨na, nn, nc, rfl, hnn⟩ := hr2.shapeN
   have hI := NewI.num hW hr2 hs2 hnew2
   clear hnn
   go_wp2_with fail
   refine hK.out _ _ ?_ (fun hHeld => ?_)
   ·exact cells_of6P (hI.step.at hVH.out (by simp))
   clear hK K
   refine wpAnyH_ready (rs := [7, 8]) (by kernel_rfl) (by simp) ?_
   refine AllReadyH.cons (o := _) rfl (fun K hK => ?_) (AllReadyH.cons (o := _) rfl (fun K hK => ?_) AllReadyH.nil)
   ·refine wp_put_str (.tmp 68) (.tmp 70) (by rfl) (by rfl) hI.row s (by rw [← hS0H.out]; rfl) (by simp only [List.length_append, List.length_cons, List.length_nil, layI_length]; omega) ?_
    intro ad7 N7 c7 W7 hr7 hg7
    have hI := hI.grew hr7 hg7
    refine hK.out _ _ ?_ (fun hHeld => ?_)
    ·exact cells_of6P (hI.step.at hVH.out (by simp))
    clear hK K
    refine wpAnyH_ready (rs := [8]) (by kernel_rfl) (by simp) ?_
    refine AllReadyH.cons (o := _) rfl (fun K hK => ?_) AllReadyH.nil
    go_simp
    have hZ := OneB.new (z := 0) (c := 0) hI.row rfl
    have hI := hI.on (Step.alloc (.cells #[.int .u8 0] 5))
    refine hK.out _ _ ?_ (fun hHeld => ?_)
    ·exact cells_of6P (hI.step.at hVH.out (by simp))
    clear hK K
    refine wpAnyH_ready (rs := [9]) (by kernel_rfl) (by simp) ?_
    refine AllReadyH.cons (o := _) rfl (fun K hK => ?_) AllReadyH.nil
    refine wp_put_src (.tmp 71) (.tmp 72) (by rfl) (by rfl) hI.row [0] (by first | rfl | (rw [alloc_size]; rfl)) hZ.src (by simp only [List.length_append, List.length_cons, List.length_nil, layI_length]; omega) ?_
    intro ad9 N9 c9 W9 hr9 hg9
    have hI := hI.grew hr9 hg9
    refine hK.out _ _ ?_ (fun hHeld => ?_)
    ·exact cells_of6P (hI.step.at hVH.out (by simp))
    clear hK K
    refine wpAnyH_ready (rs := [11]) (by kernel_rfl) (by simp) ?_
    refine AllReadyH.cons (o := _) rfl (fun K hK => ?_) AllReadyH.nil
    go_simp
    refine (hbc.out _ hI.step).mono ?_
    rintro e w11 ⟨rfl, hs11⟩
    rw [← hrH.out]
    have hI := hI.on hs11
    go_wp2_with fail
    refine hK.out _ _ ?_ (fun hHeld => ?_)
    ·exact cells_of6P (hI.step.at hVH.out (by simp))
    clear hK K
    refine tkH 12 ?_ rfl (by kernel_rfl) (fun _ _ _ h => h) ?_ hHeld ?_
    rotate_left
    ·intro w' hSw; (try dsimp only at hSw); go_simp
     all_goals (with_reducible rfl)
    simp only [zP, zO, zA, zB, zC, zD, zE, zF]
    refine tkH 13 ?_ rfl (by kernel_rfl) (fun _ _ _ h => h) ?_ hHeld ?_
    rotate_left
    ·intro w' hSw; (try dsimp only at hSw); go_simp
     all_goals (with_reducible rfl)
    simp only [zP, zO, zA, zB, zC, zD, zE, zF]
    refine tkH 14 ?_ rfl (by kernel_rfl) (fun _ _ _ h => h) ?_ hHeld ?_
    rotate_left
    ·intro w' hSw; (try dsimp only at hSw); go_simp
     all_goals (with_reducible rfl)
    simp only [zP, zO, zA, zB, zC, zD, zE, zF]
    refine wpAnyH_ready (rs := [15]) (by kernel_rfl) (by simp) ?_
    refine AllReadyH.cons (o := _) rfl (fun K hK => ?_) AllReadyH.nil
    go_simp
    refine (hut _).mono ?_
    rintro e w' ⟨rfl, rfl⟩
    go_wp2_with fail
    refine hK.out _ _ ?_ (fun hHeld => ?_)
    ·exact cells_of6P (hI.step.at hVH.out (by simp))
    clear hK K
    refine tkH 16 ?_ rfl (by kernel_rfl) (fun _ _ _ h => h) ?_ hHeld ?_
    rotate_left
    ·intro w' hSw; (try dsimp only at hSw); go_simp
     all_goals (with_reducible rfl)
    simp only [zP, zO, zA, zB, zC, zD, zE, zF]
    refine tkH 17 ?_ rfl (by kernel_rfl) (fun _ _ _ h => h) ?_ hHeld ?_
    rotate_left
    ·intro w' hSw; (try dsimp only at hSw); go_simp
     all_goals (with_reducible rfl)
    simp only [zP, zO, zA, zB, zC, zD, zE, zF]
    refine tkH 18 ?_ rfl (by kernel_rfl) (fun _ _ _ h => h) ?_ hHeld ?_
    rotate_left
    ·intro w' hSw; (try dsimp only at hSw); go_simp
     all_goals (with_reducible rfl)
    simp only [zP, zO, zA, zB, zC, zD, zE, zF]
    refine wpAnyH_done (by kernel_rfl) ?_ _
    have hIH := Lib.hid hI
    clear hI v0 v1 v2 v3 v4 v5 hHeld
    go_wp2_with fail
    go_ret2
    refine ⟨ad9, N9, c9, by rw [hokH.out]; rfl, fun _ => ?_, hst1H.out.tail hIH.out.step⟩
    have e : encV (.mk 5 n s b f l) = layI 4 M ++ s ++ [0] := by rw [henH.out, hMH.out]; simp
    rw [e]
    exact ⟨hIH.out.row.len, row_bin hIH.out.row (fun k hk => .inr (by have := hIH.out.own k hk; omega))⟩
   ·go_simp
    have hZ := OneB.new (z := 0) (c := 0) hI.row rfl
    have hI := hI.on (Step.alloc (.cells #[.int .u8 0] 5))
    refine hK.out _ _ ?_ (fun hHeld => ?_)
    ·exact cells_of6P (hI.step.at hVH.out (by simp))
    clear hK K
    refine wpAnyH_ready (rs := [7]) (by kernel_rfl) (by simp) ?_
    refine AllReadyH.cons (o := _) rfl (fun K hK => ?_) AllReadyH.nil
    refine wp_put_str (.tmp 68) (.tmp 70) (by rfl) (by rfl) hI.row s (by rw [← hS0H.out]; rfl) (by simp only [List.length_append, List.length_cons, List.length_nil, layI_length]; omega) ?_
    intro ad7 N7 c7 W7 hr7 hg7
    have hI := hI.grew hr7 hg7
    refine hK.out _ _ ?_ (fun hHeld => ?_)
    ·exact cells_of6P (hI.step.at hVH.out (by simp))
    clear hK K
    have hZ := hZ.grew hg7
    refine wpAnyH_ready (rs := [9]) (by kernel_rfl) (by simp) ?_
    refine AllReadyH.cons (o := _) rfl (fun K hK => ?_) AllReadyH.nil
    refine wp_put_src (.tmp 71) (.tmp 72) (by rfl) (by rfl) hI.row [0] (by first | rfl | (rw [alloc_size]; rfl)) hZ.src (by simp only [List.length_append, List.length_cons, List.length_nil, layI_length]; omega) ?_
    intro ad9 N9 c9 W9 hr9 hg9
    have hI := hI.grew hr9 hg9
    refine hK.out _ _ ?_ (fun hHeld => ?_)
    ·exact cells_of6P (hI.step.at hVH.out (by simp))
    clear hK K
    refine wpAnyH_ready (rs := [11]) (by kernel_rfl) (by simp) ?_
    refine AllReadyH.cons (o := _) rfl (fun K hK => ?_) AllReadyH.nil
    go_simp
    refine (hbc.out _ hI.step).mono ?_
    rintro e w11 ⟨rfl, hs11⟩
    rw [← hrH.out]
    have hI := hI.on hs11
    go_wp2_with fail
    refine hK.out _ _ ?_ (fun hHeld => ?_)
    ·exact cells_of6P (hI.step.at hVH.out (by simp))
    clear hK K
    refine tkH 12 ?_ rfl (by kernel_rfl) (fun _ _ _ h => h) ?_ hHeld ?_
    rotate_left
    ·intro w' hSw; (try dsimp only at hSw); go_simp
     all_goals (with_reducible rfl)
    simp only [zP, zO, zA, zB, zC, zD, zE, zF]
    refine tkH 13 ?_ rfl (by kernel_rfl) (fun _ _ _ h => h) ?_ hHeld ?_
    rotate_left
    ·intro w' hSw; (try dsimp only at hSw); go_simp
     all_goals (with_reducible rfl)
    simp only [zP, zO, zA, zB, zC, zD, zE, zF]
    refine tkH 14 ?_ rfl (by kernel_rfl) (fun _ _ _ h => h) ?_ hHeld ?_
    rotate_left
    ·intro w' hSw; (try dsimp only at hSw); go_simp
     all_goals (with_reducible rfl)
    simp only [zP, zO, zA, zB, zC, zD, zE, zF]
    refine wpAnyH_ready (rs := [15]) (by kernel_rfl) (by simp) ?_
    refine AllReadyH.cons (o := _) rfl (fun K hK => ?_) AllReadyH.nil
    go_simp
    refine (hut _).mono ?_
    rintro e w' ⟨rfl, rfl⟩
    go_wp2_with fail
    refine hK.out _ _ ?_ (fun hHeld => ?_)
    ·exact cells_of6P (hI.step.at hVH.out (by simp))
    clear hK K
    refine tkH 16 ?_ rfl (by kernel_rfl) (fun _ _ _ h => h) ?_ hHeld ?_
    rotate_left
    ·intro w' hSw; (try dsimp only at hSw); go_simp
     all_goals (with_reducible rfl)
    simp only [zP, zO, zA, zB, zC, zD, zE, zF]
    refine tkH 17 ?_ rfl (by kernel_rfl) (fun _ _ _ h => h) ?_ hHeld ?_
    rotate_left
    ·intro w' hSw; (try dsimp only at hSw); go_simp
     all_goals (with_reducible rfl)
    simp only [zP, zO, zA, zB, zC, zD, zE, zF]
    refine tkH 18 ?_ rfl (by kernel_rfl) (fun _ _ _ h => h) ?_ hHeld ?_
    rotate_left
    ·intro w' hSw; (try dsimp only at hSw); go_simp
     all_goals (with_reducible rfl)
    simp only [zP, zO, zA, zB, zC, zD, zE, zF]
    refine wpAnyH_done (by kernel_rfl) ?_ _
    have hIH := Lib.hid hI
    clear hI v0 v1 v2 v3 v4 v5 hHeld
    go_wp2_with fail
    go_ret2
    refine ⟨ad9, N9, c9, by rw [hokH.out]; rfl, fun _ => ?_, hst1H.out.tail hIH.out.step⟩
    have e : encV (.mk 5 n s b f l) = layI 4 M ++ s ++ [0] := by rw [henH.out, hMH.out]; simp
    rw [e]
    exact ⟨hIH.out.row.len, row_bin hIH.out.row (fun k hk => .inr (by have := hIH.out.own k hk; omega))⟩
  ·go_simp
   have hZ := OneB.new (W := W1.drew) (z := 0) (c := 0) (Row.nil _) rfl
   have hW := hW.tail (Step.alloc (.cells #[.int .u8 0] 5))
   refine hK.out _ _ ?_ (fun hHeld => ?_)
   ·exact cells_of6P (hW.at hVH.out (by simp))
   clear hK K
   refine wpAnyH_ready (rs := [4]) (by kernel_rfl) (by simp) ?_
   refine AllReadyH.cons (o := _) rfl (fun K hK => ?_) AllReadyH.nil
   go_simp
   refine (ref_num M 4 _ (by omega) ⟨by omega, by omega⟩).mono ?_
   rintro e w2 ⟨nv, rfl, hr2, hs2, hnew2⟩
   obtain ⟨na, nn, nc, rfl, hnn⟩ := hr2.shapeN
   have hI := NewI.num hW hr2 hs2 hnew2
   clear hnn
   go_wp2_with fail
   refine hK.out _ _ ?_ (fun hHeld => ?_)
   ·exact cells_of6P (hI.step.at hVH.out (by simp))
   clear hK K
   have hZ := hZ.with hs2 hnew2
   refine wpAnyH_ready (rs := [7]) (by kernel_rfl) (by simp) ?_
   refine AllReadyH.cons (o := _) rfl (fun K hK => ?_) AllReadyH.nil
   refine wp_put_str (.tmp 68) (.tmp 70) (by rfl) (by rfl) hI.row s (by rw [← hS0H.out]; rfl) (by simp only [List.length_append, List.length_cons, List.length_nil, layI_length]; omega) ?_
   intro ad7 N7 c7 W7 hr7 hg7
   have hI := hI.grew hr7 hg7
   refine hK.out _ _ ?_ (fun hHeld => ?_)
   ·exact cells_of6P (hI.step.at hVH.out (by simp))
   clear hK K
   have hZ := hZ.grew hg7
   refine wpAnyH_ready (rs := [9]) (by kernel_rfl) (by simp) ?_
   refine AllReadyH.cons (o := _) rfl (fun K hK => ?_) AllReadyH.nil
   refine wp_put_src (.tmp 71) (.tmp 72) (by rfl) (by rfl) hI.row [0] (by first | rfl | (rw [alloc_size]; rfl)) hZ.src (by simp only [List.length_append, List.length_cons, List.length_nil, layI_length]; omega) ?_
   intro ad9 N9 c9 W9 hr9 hg9
   have hI := hI.grew hr9 hg9
   refine hK.out _ _ ?_ (fun hHeld => ?_)
   ·exact cells_of6P (hI.step.at hVH.out (by simp))
   clear hK K
   refine wpAnyH_ready (rs := [11]) (by kernel_rfl) (by simp) ?_
   refine AllReadyH.cons (o := _) rfl (fun K hK => ?_) AllReadyH.nil
   go_simp
   refine (hbc.out _ hI.step).mono ?_
   rintro e w11 ⟨rfl, hs11⟩
   rw [← hrH.out]
   have hI := hI.on hs11
   go_wp2_with fail
   refine hK.out _ _ ?_ (fun hHeld => ?_)
   ·exact cells_of6P (hI.step.at hVH.out (by simp))
   clear hK K
   refine tkH 12 ?_ rfl (by kernel_rfl) (fun _ _ _ h => h) ?_ hHeld ?_
   rotate_left
   ·intro w' hSw; (try dsimp only at hSw); go_simp
    all_goals (with_reducible rfl)
   simp only [zP, zO, zA, zB, zC, zD, zE, zF]
   refine tkH 13 ?_ rfl (by kernel_rfl) (fun _ _ _ h => h) ?_ hHeld ?_
   rotate_left
   ·intro w' hSw; (try dsimp only at hSw); go_simp
    all_goals (with_reducible rfl)
   simp only [zP, zO, zA, zB, zC, zD, zE, zF]
   refine tkH 14 ?_ rfl (by kernel_rfl) (fun _ _ _ h => h) ?_ hHeld ?_
   rotate_left
   ·intro w' hSw; (try dsimp only at hSw); go_simp
    all_goals (with_reducible rfl)
   simp only [zP, zO, zA, zB, zC, zD, zE, zF]
   refine wpAnyH_ready (rs := [15]) (by kernel_rfl) (by simp) ?_
   refine AllReadyH.cons (o := _) rfl (fun K hK => ?_) AllReadyH.nil
   go_simp
   refine (hut _).mono ?_
   rintro e w' ⟨rfl, rfl⟩
   go_wp2_with fail
   refine hK.out _ _ ?_ (fun hHeld => ?_)
   ·exact cells_of6P (hI.step.at hVH.out (by simp))
   clear hK K
   refine tkH 16 ?_ rfl (by kernel_rfl) (fun _ _ _ h => h) ?_ hHeld ?_
   rotate_left
   ·intro w' hSw; (try dsimp only at hSw); go_simp
    all_goals (with_reducible rfl)
   simp only [zP, zO, zA, zB, zC, zD, zE, zF]
   refine tkH 17 ?_ rfl (by kernel_rfl) (fun _ _ _ h => h) ?_ hHeld ?_
   rotate_left
   ·intro w' hSw; (try dsimp only at hSw); go_simp
    all_goals (with_reducible rfl)
   simp only [zP, zO, zA, zB, zC, zD, zE, zF]
   refine tkH 18 ?_ rfl (by kernel_rfl) (fun _ _ _ h => h) ?_ hHeld ?_
   rotate_left
   ·intro w' hSw; (try dsimp only at hSw); go_simp
    all_goals (with_reducible rfl)
   simp only [zP, zO, zA, zB, zC, zD, zE, zF]
   refine wpAnyH_done (by kernel_rfl) ?_ _
   have hIH := Lib.hid hI
   clear hI v0 v1 v2 v3 v4 v5 hHeld
   go_wp2_with fail
   go_ret2
   refine ⟨ad9, N9, c9, by rw [hokH.out]; rfl, fun _ => ?_, hst1H.out.tail hIH.out.step⟩
   have e : encV (.mk 5 n s b f l) = layI 4 M ++ s ++ [0] := by rw [henH.out, hMH.out]; simp
   rw [e]
   exact ⟨hIH.out.row.len, row_bin hIH.out.row (fun k hk => .inr (by have := hIH.out.own k hk; omega))⟩
end Go.Proofs.YtembpajlllnncaaGreatDoor
namespace Go.Proofs.YtembpajlllnncaaGreatDoor
open Go.RowKit

theorem own_step (N : Nat) (ih : OwnC N) : OwnC (N + 1) := by
 intro P x cs w d hN hw hd hx
 cases x with
 | mk k n s b f l =>
  have hw2 := hw
  rw [weightV] at hw2
  by_cases h1 : k = 1 ∨ k = 2 ∨ k = 12
  ·exact rown_none h1 hx
  by_cases h3 : k = 3
  ·exact own_i32 h3 hx
  by_cases h4 : k = 4 ∨ k = 11
  ·exact own_num8 h4 hx
  by_cases h5 : k = 5
  ·exact own_text h5 hx (by omega)
  by_cases h6 : k = 6
  ·exact own_doc N ih h6 hx (fun j h => Nat.lt_of_lt_of_le (f_size h) (Nat.le_of_lt_succ hN)) (by omega) hw hd
  by_cases h7 : k = 7
  ·exact own_list N ih h7 hx (fun j h => Nat.lt_of_lt_of_le (l_size h) (Nat.le_of_lt_succ hN)) (by omega) hw hd
  by_cases h8 : k = 8
  ·exact own_bytes h8 hx (by omega)
  by_cases h9 : k = 9
  ·exact own_id h9 hx
  by_cases h10 : k = 10
  ·exact own_bool h10 hx
  exact own_no (by omega) hx
theorem own_all : ∀ N, OwnC N
 | 0 => fun _ x _ _ _ hN => absurd hN (Nat.not_lt_zero _)
 | N + 1 => own_step N (own_all N)
/-- The reference's Encode: a document's bytes, or that it may not be one. -/
def REncP (P : Nat → Prop) (x : Val) (w : World) (e : Ending) (w' : World) : Prop :=
 ∃ ba bn bc, Step [] id id w w' ∧ ((okDoc x = true ∧ e = .returned (.tuple #[.slice ba bn bc, .int .i64 0]) ∧ bn = (wrapDoc (encFs x.f)).length ∧ BIn (fun k => P k ∨ w.heap.size ≤ k) w' (.slice ba bn bc) (wrapDoc (encFs x.f))) ∨
  (okDoc x = false ∧ e = .returned (.tuple #[.slice none 0 0, .int .i64 1])))
theorem own_small {x : Val} {d : Nat} (h : weightV x ≤ 3001) (hd : d ≤ 40) : OwnQC x d := (own_all (SizeOf.sizeOf x + 1)).q (Nat.lt_succ_self _) h hd
theorem okDoc_ownQ {x : Val} (hk : x.kind = 6) : okDoc x = okQ 0 x ∧ encV x = wrapDoc (encFs x.f) := by
 cases x with
 | mk k n s b f l =>
  obtain rfl : k = 6 := hk
  have e : encV (.mk 6 n s b f l) = wrapDoc (encFs f) := by simp [encV]
  refine ⟨?_, e⟩
  unfold okDoc okQ
  rw [okV, e]
  simp [Val.kind, Val.f, codeOf, Bool.and_assoc]
  rfl
set_option maxRecDepth 100000 in
set_option maxHeartbeats 4000000 in
theorem ref_encodeQ {P : Nat → Prop} {x : Val} {cs : List Value} {w : World} (hx : VIs P w x cs) (hw : OwnQC x 0) : Calls Tryz.prog 31 #[.agg cs.toArray] w (REncP P x w) := by
 obtain ⟨s0, ba, bn, bc, fa, fn, fc, la, ln, lc, hcs, -⟩ := hx.six
 obtain ⟨n0, hn0⟩ : ∃ k, k = x.num := ⟨_, rfl⟩
 obtain ⟨k0, hk0⟩ : ∃ k, k = x.kind := ⟨_, rfl⟩
 rw [← hk0, ← hn0] at hcs
 subst hcs
 obtain ⟨W1, hW1⟩ : ∃ W1, W1 = w.alloc (.cells #[.int .i64 k0, .int .i64 n0, .string s0, .slice ba bn bc, .slice fa fn fc, .slice la ln lc] 35) := ⟨_, rfl⟩
 have hst1 : Step [] id id w W1 := by rw [hW1]; exact Step.alloc _
 have hc : Calls Tryz.prog 43 #[.agg #[.int .i64 k0, .int .i64 n0, .string s0, .slice ba bn bc, .slice fa fn fc, .slice la ln lc], .int .i64 1] W1 (OwnQ P x 0 W1) :=
  hw P _ W1 (hx.keep (P2 := P) (w' := W1) (fun _ h => h) (fun k hP hk => (hst1.keep k hk (by simp)).2))
 have hcH := Lib.hid hc
 have hst1H := Lib.hid hst1
 have hW1H := Lib.hid hW1
 have hk0H := Lib.hid hk0
 clear hx hc hst1 hW1 hk0 hn0 hw
 by_cases hk : k0 = 6
 ·have hd : (k0 != 6) = false := by rw [bne_eq_false_iff_eq]; exact hk
  have hx6 : x.kind = 6 := by rw [← hk0H.out]; exact hk
  obtain ⟨ho, hen⟩ := okDoc_ownQ hx6
  have hoH := Lib.hid ho
  have henH := Lib.hid hen
  obtain ⟨r, hr⟩ : ∃ r, r = okQ 0 x := ⟨_, rfl⟩
  have hrH := Lib.hid hr
  clear ho hen hx6 hr hk
  go_enter Tryz.func31, Tryz.ntmps31
  go_wp2_with fail
  rw [← hW1H.out]
  refine hcH.out.mono ?_
  rintro e w2 ⟨xa, xn, xc, rfl, hok, hs2⟩
  rw [← hrH.out] at hok ⊢
  have hokH := Lib.hid hok
  have hs2H := Lib.hid hs2
  clear hok hs2
  cases r
  ·go_wp2_with fail
   go_ret2
   exact ⟨none, 0, 0, hst1H.out.tail hs2H.out, .inr ⟨by rw [hoH.out, ← hrH.out], rfl⟩⟩
  ·go_wp2_with fail
   go_ret2
   obtain ⟨h1, h2⟩ := hokH.out trivial
   rw [henH.out] at h1 h2
   exact ⟨xa, xn, xc, hst1H.out.tail hs2H.out, .inl ⟨by rw [hoH.out, ← hrH.out], rfl, h1, h2.keep (fun k h => h.imp id (fun h => Nat.le_trans hst1H.out.size h)) (fun _ _ _ => rfl)⟩⟩
 ·have hd : (k0 != 6) = true := by rw [bne_iff_ne]; exact hk
  have hno : okDoc x = false := by unfold okDoc; rw [decide_eq_false (by rw [← hk0H.out]; exact hk)]; rfl
  have hnoH := Lib.hid hno
  clear hno hk
  go_enter Tryz.func31, Tryz.ntmps31
  go_wp2_with fail
  go_ret2
  exact ⟨none, 0, 0, by rw [← hW1H.out]; exact hst1H.out, .inr ⟨hnoH.out, rfl⟩⟩
theorem ref_encode {P : Nat → Prop} {x : Val} {cs : List Value} {w : World} (hx : VIs P w x cs) (hw : weightV x ≤ 3001) : Calls Tryz.prog 31 #[.agg cs.toArray] w (REncP P x w) := ref_encodeQ hx (own_small hw (by omega))
end Go.Proofs.YtembpajlllnncaaGreatDoor
namespace Go.Proofs.YtembpajlllnncaaGreatDoor
open Go.RowKit

set_option maxRecDepth 100000 in
set_option maxHeartbeats 2000000 in
theorem ref_may {P : Nat → Prop} {x : Val} {cs : List Value} {w : World} (hx : VIs P w x cs) (hw : weightV x ≤ 3001) : Calls Tryz.prog 11 #[.agg cs.toArray] w (AnyBool w) := by
 obtain ⟨s0, ba, bn, bc, fa, fn, fc, la, ln, lc, hcs, -⟩ := hx.six
 obtain ⟨n0, hn0⟩ : ∃ k, k = x.num := ⟨_, rfl⟩
 obtain ⟨k0, hk0⟩ : ∃ k, k = x.kind := ⟨_, rfl⟩
 rw [← hk0, ← hn0] at hcs
 subst hcs
 clear hn0 hk0
 obtain ⟨W1, hW1⟩ : ∃ W1, W1 = w.alloc (.cells #[.int .i64 k0, .int .i64 n0, .string s0, .slice ba bn bc, .slice fa fn fc, .slice la ln lc] 35) := ⟨_, rfl⟩
 have hs1 : Step [] id id w W1 := by rw [hW1]; exact Step.alloc _
 have henc := Lib.hid (ref_encode (hx.low.onto hs1) hw)
 have hs1H := Lib.hid hs1
 have hW1H := Lib.hid hW1
 clear hx hs1 hW1 hw
 go_enter Tryz.func11, Tryz.ntmps11
 go_wp2_with fail
 rw [← hW1H.out]
 refine henc.out.mono ?_
 rintro e w2 ⟨b1, b2, b3, hs2, ⟨-, rfl, -, -⟩ | ⟨-, rfl⟩⟩
 ·have hs2H := Lib.hid (hs1H.out.tail hs2)
  clear hs2
  go_wp2_with fail
  go_ret
  exact ⟨true, rfl, hs2H.out⟩
 ·have hs2H := Lib.hid (hs1H.out.tail hs2)
  clear hs2
  go_wp2_with fail
  go_ret
  exact ⟨false, rfl, hs2H.out⟩
end Go.Proofs.YtembpajlllnncaaGreatDoor
